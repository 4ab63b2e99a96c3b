/- The texts of this claim, part M: words, plain laws, walks. -/
import Derived.Test.YtdopgooglicaiaaPartK
import Derived.Test.YtdopgooglicaiaaPartL
/- The walk of capstanlaw17.CourtMoves. -/
set_option linter.unusedSimpArgs false
set_option linter.unusedVariables false
namespace Go.Proofs.Ytdopgooglicaiaa
open Go.RowKit
set_option maxRecDepth 100000
theorem ite_same {a b : Prop} [Decidable a] [Decidable b] {u z : Int × Int} (h : b) : (if a then u else if b then u else z) = u := by
  by_cases ha : a
  · rw [if_pos ha]
  · rw [if_neg ha, if_pos h]
set_option maxRecDepth 100000 in
set_option maxHeartbeats 8000000 in
theorem courtMoves_walk (w : World) (by0 : Int) (b_lo : -9223372036854775808 ≤ by0) (b_hi : by0 < 9223372036854775808) (ag : Int) (a_lo : -9223372036854775808 ≤ ag) (a_hi : ag < 9223372036854775808) (wh : Int) (w_lo : -9223372036854775808 ≤ wh) (w_hi : wh < 9223372036854775808) :
    Calls Try.prog 5 #[.int .i64 by0, .int .i64 ag, .int .i64 wh] w (RB true w) := by
  obtain ⟨p, hp⟩ : ∃ q : Int, by0 % 10 = q := ⟨_, rfl⟩
  obtain ⟨r, hr⟩ : ∃ q : Int, ag % 10 = q := ⟨_, rfl⟩
  obtain ⟨m, hm⟩ : ∃ q : Int, wh % 9 = q := ⟨_, rfl⟩
  have hp10 : 0 ≤ p ∧ p < 10 := by omega
  have hr10 : 0 ≤ r ∧ r < 10 := by omega
  have hm9 : 0 ≤ m ∧ m < 9 := by omega
  have HP := Lib.hid hp
  have HR := Lib.hid hr
  have HM := Lib.hid hm
  clear hp hr hm
  obtain ⟨cH, hcH⟩ : ∃ c, hallC 300 (hashL 5) = c := ⟨_, rfl⟩
  obtain ⟨cS, hcS⟩ : ∃ c, mvS = c := ⟨_, rfl⟩
  obtain ⟨cC, hcC⟩ : ∃ c, mvC = c := ⟨_, rfl⟩
  obtain ⟨cM, hcM⟩ : ∃ c, mvM = c := ⟨_, rfl⟩
  obtain ⟨cN, hcN⟩ : ∃ c, mvN = c := ⟨_, rfl⟩
  have HCH := Lib.hid hcH
  have HCS := Lib.hid hcS
  have HCC := Lib.hid hcC
  have HCM := Lib.hid hcM
  have HCN := Lib.hid hcN
  have KH : Hid cH.ok := (show cH.ok from by rw [← hcH]; exact hallC_ok 300 (hashL 5) (hashL_all 5) (by rw [hashL_len]; decide))
  have KS : Hid cS.ok := (show cS.ok from by rw [← hcS]; exact mvS_ok)
  have KC : Hid cC.ok := (show cC.ok from by rw [← hcC]; exact mvC_ok)
  have KM : Hid cM.ok := (show cM.ok from by rw [← hcM]; exact mvM_ok)
  have KN : Hid cN.ok := (show cN.ok from by rw [← hcN]; exact mvN_ok)
  have CC : Hid (cC.claims = [mvX]) := (show _ = _ by rw [← hcC]; rfl)
  have CM : Hid (cM.claims = [mvX2]) := (show _ = _ by rw [← hcM]; rfl)
  have BC : Hid (BkB 10000000 cC.bank) := (show BkB _ _ by rw [← hcC]; exact mv_bk)
  have BM : Hid (BkB 10000000 cM.bank) := (show BkB _ _ by rw [← hcM]; exact mv_bk)
  have R1 : Hid (movedR cC mvX 0 mvSu (sayD mvSu.g (one_ 7) cC.now) = (cM, 0)) := (show _ = _ by rw [← hcC, ← hcM]; exact mv_say)
  have R2 : Hid (movedR cM mvX2 0 mvSu2 (sayD mvSu2.g (one_ 8) cM.now) = (cM, 17)) := (show _ = _ by rw [← hcM]; exact mv_say2 _)
  have R3 : Hid (movedR cC mvX 0 mvSu (chooseD mvSu.g true cC.now) = (cC, 17)) := (show _ = _ by rw [← hcC]; exact mv_side _)
  have R4 : Hid (movedR cM mvX2 0 mvSu2 (chooseD mvSu2.g true cM.now) = (cN, 0)) := (show _ = _ by rw [← hcM, ← hcN]; exact mv_side2)
  have OC : Hid (∀ i g, claimE cC i 0 g = if ¬ partyB i ∨ ¬ partyB g then (0, 1) else if (2 : Int) ≠ i then (0, 1) else if (5 : Int) = g then (0, 0) else (0, 2)) := (show ∀ i g, _ from fun i g => one_claim CC.out rfl rfl i g)
  have OM : Hid (∀ i g, claimE cM i 0 g = if ¬ partyB i ∨ ¬ partyB g then (0, 1) else if (2 : Int) ≠ i then (0, 1) else if (5 : Int) = g then (0, 0) else (0, 2)) := (show ∀ i g, _ from fun i g => one_claim CM.out rfl rfl i g)
  have PC : Hid (∀ i, openE cC i 0 = if (5 : Int) = i then (0, 0) else (0, 2)) := (show ∀ i, _ from fun i => one_open CC.out rfl rfl i)
  have PM : Hid (∀ i, openE cM i 0 = if (5 : Int) = i then (0, 0) else (0, 2)) := (show ∀ i, _ from fun i => one_open CM.out rfl rfl i)
  clear hcH hcS hcC hcM hcN
  go_enter Try.func5, Try.ntmps5
  go_wp2_with fail
  refine (courtKnown_any w).mono ?_
  rintro e w1 ⟨rfl, ff⟩
  go_wp2_with fail
  refine (hall_any 300 5 (by omega) (by omega) (by omega) w1).mono ?_
  rintro e wy0 ⟨v0, rfl, hs, hb⟩
  rw [HCH.out] at hs
  obtain ⟨vt0, vc0, rfl, ht, hc⟩ := hs [] (fun _ h => by cases h)
  have o0t := ht.one
  have o0c := hc.one
  have I0 := Lib.hid (info_co (vt := vt0) (vc := vc0) (c := cH) KH.out.pre KH.out.bank)
  have L0 : Hid ((coC vt0 vc0 cH).length = 43) := Lib.hid (coC_len (c := cH) KH.out.pre KH.out.bank)
  have x0 : CoX [] wy0 (.agg (coC vt0 vc0 cH).toArray) cH := ⟨vt0, vc0, rfl, ht, hc⟩
  replace ff := ff.trans (hb.mono ff.size)
  clear hs ht hc hb
  obtain ⟨C, hC⟩ : ∃ C, wy0.heap.size = C := ⟨_, rfl⟩
  have hwC : w.heap.size ≤ C := by rw [← hC]; exact ff.size
  have HC1 := Lib.hid hC
  clear hC
  go_wp2_with (first
    | (refine wpl_store_new rfl _ _ _ rfl 30 _ (coC vt0 vc0 cH) rfl rfl (by rw [L0.out]; rfl) I0.out (coC_one o0t o0c) ?_
       intro wz0 dC hz
       simp only [Act.put, List.setIfInBounds_toArray, List.set_cons_zero, List.set_cons_succ]
       replace ff := ff.trans (hz.mono ff.size)
       have yC := x0.to hz
       clear hz x0
       rw [HC1.out] at dC ⊢)
    | (refine wpl_load_fld (by rfl) _ _ rfl C 0 rfl (coC vt0 vc0 cH) _ dC.range Try.underlying30 rfl I0.out ?_)
    | (refine wpl_build (by rfl) _ _ rfl _ (by exact builtC9) ?_))
  refine (sayC_any _ cH KH.out 2 4 (one_ 9) rfl wz0 (by rw [← HCH.out]; decide) yC (cS, 0) (.inr (.inr ⟨⟨by decide, by decide⟩, by decide, by rw [← HCH.out]; show (4 : Int) ≤ ((hashL 5).length : Int); rw [hashL_len]; decide, by rw [← HCH.out]; decide, by rw [← HCH.out]; decide, by rw [← HCS.out, ← HCH.out]; rfl⟩))).mono ?_
  rintro en wy1 ⟨v1, rfl, hs, hb⟩
  obtain ⟨vt1, vc1, rfl, ht, hc⟩ := hs [C] (fun b hb => by rw [List.mem_singleton.1 hb]; exact dC.lt)
  have o1t := ht.one
  have o1c := hc.one
  have I1 := Lib.hid (info_co (vt := vt1) (vc := vc1) (c := cS) KS.out.pre KS.out.bank)
  have L1 : Hid ((coC vt1 vc1 cS).length = 43) := Lib.hid (coC_len (c := cS) KS.out.pre KS.out.bank)
  have x1 : CoX [C] wy1 (.agg (coC vt1 vc1 cS).toArray) cS := ⟨vt1, vc1, rfl, ht, hc⟩
  clear hs ht hc
  replace dC := dC.to hb
  replace yC := yC.to hb
  replace ff := ff.trans (hb.mono ff.size)
  clear hb
  go_wp2_with (first
    | (refine wpl_store_fld (by rfl) _ _ _ rfl C 0 _ _ (coC vt1 vc1 cS) rfl _ rfl rfl dC (by rw [L0.out, L1.out]; exact Nat.le_refl _) I1.out (coC_one o1t o1c) ?_
       intro w3 dd uu
       rw [put_all _ _ (by rw [L0.out, L1.out])] at dd
       replace ff := ff.trans (below_but uu hwC ff.size)
       have yy := cell_next x1 uu
       clear dC yC uu x1
       have dC := dd
       have yC := yy
       clear dd yy)
    | (refine wpl_load_fld (by rfl) _ _ rfl C 0 rfl (coC vt1 vc1 cS) _ dC.range Try.underlying30 rfl I1.out ?_))
  refine (sueC_any _ cS KS.out mvX0 (by rw [← HCS.out]; rfl) (by rw [← HCS.out]; exact ⟨by decide, by show (4 : Int) ≤ ((hashL 5).length : Int); rw [hashL_len]; decide, by show (hashL 5).length ≤ 2048; rw [hashL_len]; decide⟩) (by rw [← HCS.out]; decide) (by decide) (by rw [← HCS.out]; decide) (by decide) 5 0 w3 yC).mono ?_
  rw [show sueR cS mvX0 5 0 = (cC, 0) from by rw [← HCS.out, ← HCC.out]; exact mv_sue]
  rintro en wy2 ⟨v2, rfl, hs, hb⟩
  obtain ⟨vt2, vc2, rfl, ht, hc⟩ := hs [C] (fun b hb => by rw [List.mem_singleton.1 hb]; exact dC.lt)
  have o2t := ht.one
  have o2c := hc.one
  have I2 := Lib.hid (info_co (vt := vt2) (vc := vc2) (c := cC) KC.out.pre KC.out.bank)
  have L2 : Hid ((coC vt2 vc2 cC).length = 43) := Lib.hid (coC_len (c := cC) KC.out.pre KC.out.bank)
  have x2 : CoX [C] wy2 (.agg (coC vt2 vc2 cC).toArray) cC := ⟨vt2, vc2, rfl, ht, hc⟩
  clear hs ht hc
  replace dC := dC.to hb
  replace yC := yC.to hb
  replace ff := ff.trans (hb.mono ff.size)
  clear hb
  go_wp2_with (first
    | (refine wpl_store_fld (by rfl) _ _ _ rfl C 0 _ _ (coC vt2 vc2 cC) rfl _ rfl rfl dC (by rw [L1.out, L2.out]; exact Nat.le_refl _) I2.out (coC_one o2t o2c) ?_
       intro w4 dd uu
       rw [put_all _ _ (by rw [L1.out, L2.out])] at dd
       replace ff := ff.trans (below_but uu hwC ff.size)
       have yy := cell_next x2 uu
       clear dC yC uu x2
       have dC := dd
       have yC := yy
       clear dd yy))
  refine (within_capstanlaw17 by0 10 w4 (by omega) (by omega) b_lo b_hi).mono ?_
  rintro e w4' ⟨rfl, rfl⟩
  rw [HP.out]
  go_wp2_with fail
  refine (within_capstanlaw17 ag 10 w4 (by omega) (by omega) a_lo a_hi).mono ?_
  rintro e w4' ⟨rfl, rfl⟩
  rw [HR.out]
  have YES2 : Hid (partyB 2) := (show partyB 2 from ⟨by decide, by decide⟩)
  have YES5 : Hid (partyB 5) := (show partyB 5 from ⟨by decide, by decide⟩)
  clear o0t o0c I0 L0 hwC HC1
  by_cases h7 : 7 < p
  · have t1 : p > 7 := h7
    have t1d : decide (7 < p) = true := decide_eq_true h7
    go_wp2_with (first
      | (refine wpl_load_fld (by rfl) _ _ rfl C 0 rfl (coC vt2 vc2 cC) _ dC.range Try.underlying30 rfl I2.out ?_)
      | (refine wpl_build (by rfl) _ _ rfl _ (by exact builtC7) ?_))
    refine (middle_err _ cC KC.out p 0 r (one_ 7) rfl 1 (by rw [OC.out, if_pos (.inl (fun h => by have := h.2; omega))]) (by decide) w4 yC).mono ?_
    rintro en wy3 ⟨v3, rfl, hs, hb⟩
    obtain ⟨vt3, vc3, rfl, ht, hc⟩ := hs [] (fun _ h => by cases h)
    have o3t := ht.one
    have o3c := hc.one
    have I3 := Lib.hid (info_co (vt := vt3) (vc := vc3) (c := cC) KC.out.pre KC.out.bank)
    have L3 : Hid ((coC vt3 vc3 cC).length = 43) := Lib.hid (coC_len (c := cC) KC.out.pre KC.out.bank)
    have x3 : CoX [] wy3 (.agg (coC vt3 vc3 cC).toArray) cC := ⟨vt3, vc3, rfl, ht, hc⟩
    clear hs ht hc
    replace dC := dC.to hb
    replace yC := yC.to hb
    replace ff := ff.trans (hb.mono ff.size)
    clear hb
    go_wp2_with (first
      | (refine wpl_store_new rfl _ _ _ rfl 30 _ (coC vt3 vc3 cC) rfl rfl (by rw [L3.out]; rfl) I3.out (coC_one o3t o3c) ?_
         intro wz3 dD hz
         simp only [Act.put, List.setIfInBounds_toArray, List.set_cons_zero, List.set_cons_succ]
         replace dC := dC.to hz
         replace yC := yC.to hz
         replace ff := ff.trans (hz.mono ff.size)
         have yD := x3.to hz
         clear hz x3)
      | (refine wpl_load_fld (by rfl) _ _ rfl C 0 rfl (coC vt2 vc2 cC) _ dC.range Try.underlying30 rfl I2.out ?_)
      | (refine wpl_load_fld (by rfl) _ _ rfl wy3.heap.size 0 rfl (coC vt3 vc3 cC) _ dD.range Try.underlying30 rfl I3.out ?_))
    refine (sameC_any _ _ cC KC.out wz3 yC yD).mono ?_
    rintro e wq ⟨rfl, hb⟩
    clear dD yD
    replace dC := dC.to hb
    replace yC := yC.to hb
    replace ff := ff.trans (hb.mono ff.size)
    clear hb
    go_wp2_with (first
      | (refine wpl_load_fld (by rfl) _ _ rfl C 0 rfl (coC vt2 vc2 cC) _ dC.range Try.underlying30 rfl I2.out ?_)
      | (refine wpl_build (by rfl) _ _ rfl _ (by exact builtC7) ?_))
    refine (middle_ok _ cC KC.out 2 5 (one_ 7) rfl mvX CC.out 0 mvSu rfl (mv_hne _) (by decide) (mv_hsb _) BC.out (by decide) (by decide) (by rw [OC.out, if_neg (by intro h; rcases h with h | h; exact h YES2.out; exact h YES5.out), if_neg (by decide), if_pos rfl]; rfl) wq yC).mono ?_
    rw [R1.out]
    rintro en wy4 ⟨v4, rfl, hs, hb⟩
    obtain ⟨vt4, vc4, rfl, ht, hc⟩ := hs [] (fun _ h => by cases h)
    have o4t := ht.one
    have o4c := hc.one
    have I4 := Lib.hid (info_co (vt := vt4) (vc := vc4) (c := cM) KM.out.pre KM.out.bank)
    have L4 : Hid ((coC vt4 vc4 cM).length = 43) := Lib.hid (coC_len (c := cM) KM.out.pre KM.out.bank)
    have x4 : CoX [] wy4 (.agg (coC vt4 vc4 cM).toArray) cM := ⟨vt4, vc4, rfl, ht, hc⟩
    clear hs ht hc
    replace dC := dC.to hb
    replace yC := yC.to hb
    replace ff := ff.trans (hb.mono ff.size)
    clear hb
    go_wp2_with (first
      | (refine wpl_store_new rfl _ _ _ rfl 30 _ (coC vt4 vc4 cM) rfl rfl (by rw [L4.out]; rfl) I4.out (coC_one o4t o4c) ?_
         intro wz4 dX hz
         simp only [Act.put, List.setIfInBounds_toArray, List.set_cons_zero, List.set_cons_succ]
         replace dC := dC.to hz
         replace yC := yC.to hz
         replace ff := ff.trans (hz.mono ff.size)
         have yX := x4.to hz
         clear hz x4)
      | (refine wpl_load_fld (by rfl) _ _ rfl wy4.heap.size 0 rfl (coC vt4 vc4 cM) _ dX.range Try.underlying30 rfl I4.out ?_))
    refine (side_no _ cM KM.out p 0 true (fun h => by have := h.2; omega) wz4 yX).mono ?_
    rintro en wy5 ⟨v5, rfl, hs, hb⟩
    obtain ⟨vt5, vc5, rfl, ht, hc⟩ := hs [] (fun _ h => by cases h)
    have o5t := ht.one
    have o5c := hc.one
    have I5 := Lib.hid (info_co (vt := vt5) (vc := vc5) (c := cM) KM.out.pre KM.out.bank)
    have L5 : Hid ((coC vt5 vc5 cM).length = 43) := Lib.hid (coC_len (c := cM) KM.out.pre KM.out.bank)
    have x5 : CoX [] wy5 (.agg (coC vt5 vc5 cM).toArray) cM := ⟨vt5, vc5, rfl, ht, hc⟩
    clear hs ht hc
    replace dC := dC.to hb
    replace yC := yC.to hb
    replace dX := dX.to hb
    replace yX := yX.to hb
    replace ff := ff.trans (hb.mono ff.size)
    clear hb
    go_wp2_with (first
      | (refine wpl_store_new rfl _ _ _ rfl 30 _ (coC vt5 vc5 cM) rfl rfl (by rw [L5.out]; rfl) I5.out (coC_one o5t o5c) ?_
         intro wz5 dY hz
         simp only [Act.put, List.setIfInBounds_toArray, List.set_cons_zero, List.set_cons_succ]
         replace dC := dC.to hz
         replace yC := yC.to hz
         replace dX := dX.to hz
         replace yX := yX.to hz
         replace ff := ff.trans (hz.mono ff.size)
         have yY := x5.to hz
         clear hz x5)
      | (refine wpl_load_fld (by rfl) _ _ rfl wy4.heap.size 0 rfl (coC vt4 vc4 cM) _ dX.range Try.underlying30 rfl I4.out ?_)
      | (refine wpl_build (by rfl) _ _ rfl _ (by exact builtC8) ?_))
    refine (middle_ok _ cM KM.out 2 5 (one_ 8) rfl mvX2 CM.out 0 mvSu2 rfl (mv_hne _) (by decide) (mv_hsb _) BM.out (by decide) (by decide) (by rw [OM.out, if_neg (by intro h; rcases h with h | h; exact h YES2.out; exact h YES5.out), if_neg (by decide), if_pos rfl]; rfl) wz5 yX).mono ?_
    rw [R2.out]
    rintro en wy6 ⟨v6, rfl, hs, hb⟩
    obtain ⟨vt6, vc6, rfl, ht, hc⟩ := hs [] (fun _ h => by cases h)
    have o6t := ht.one
    have o6c := hc.one
    have I6 := Lib.hid (info_co (vt := vt6) (vc := vc6) (c := cM) KM.out.pre KM.out.bank)
    have L6 : Hid ((coC vt6 vc6 cM).length = 43) := Lib.hid (coC_len (c := cM) KM.out.pre KM.out.bank)
    have x6 : CoX [] wy6 (.agg (coC vt6 vc6 cM).toArray) cM := ⟨vt6, vc6, rfl, ht, hc⟩
    clear hs ht hc
    replace dC := dC.to hb
    replace yC := yC.to hb
    replace dX := dX.to hb
    replace yX := yX.to hb
    replace dY := dY.to hb
    replace yY := yY.to hb
    replace ff := ff.trans (hb.mono ff.size)
    clear hb
    go_wp2_with (first
      | (refine wpl_store_new rfl _ _ _ rfl 30 _ (coC vt6 vc6 cM) rfl rfl (by rw [L6.out]; rfl) I6.out (coC_one o6t o6c) ?_
         intro wz6 dG hz
         simp only [Act.put, List.setIfInBounds_toArray, List.set_cons_zero, List.set_cons_succ]
         replace dC := dC.to hz
         replace yC := yC.to hz
         replace dX := dX.to hz
         replace yX := yX.to hz
         replace dY := dY.to hz
         replace yY := yY.to hz
         replace ff := ff.trans (hz.mono ff.size)
         have yG := x6.to hz
         clear hz x6
         clear dG yG)
      | (refine wpl_load_fld (by rfl) _ _ rfl C 0 rfl (coC vt2 vc2 cC) _ dC.range Try.underlying30 rfl I2.out ?_))
    refine (side_ok _ cC KC.out 5 true YES5.out mvX CC.out 0 mvSu rfl (mv_hne _) (by decide) (mv_hsb _) BC.out (by decide) (by decide) (by decide) (by decide) (by decide) (by rw [PC.out, if_pos rfl]; rfl) wz6 yC).mono ?_
    rw [R3.out]
    rintro en wy7 ⟨v7, rfl, hs, hb⟩
    obtain ⟨vt7, vc7, rfl, ht, hc⟩ := hs [] (fun _ h => by cases h)
    have o7t := ht.one
    have o7c := hc.one
    have I7 := Lib.hid (info_co (vt := vt7) (vc := vc7) (c := cC) KC.out.pre KC.out.bank)
    have L7 : Hid ((coC vt7 vc7 cC).length = 43) := Lib.hid (coC_len (c := cC) KC.out.pre KC.out.bank)
    have x7 : CoX [] wy7 (.agg (coC vt7 vc7 cC).toArray) cC := ⟨vt7, vc7, rfl, ht, hc⟩
    clear hs ht hc
    replace dC := dC.to hb
    replace yC := yC.to hb
    replace dX := dX.to hb
    replace yX := yX.to hb
    replace dY := dY.to hb
    replace yY := yY.to hb
    replace ff := ff.trans (hb.mono ff.size)
    clear hb
    go_wp2_with (first
      | (refine wpl_store_new rfl _ _ _ rfl 30 _ (coC vt7 vc7 cC) rfl rfl (by rw [L7.out]; rfl) I7.out (coC_one o7t o7c) ?_
         intro wz7 dH hz
         simp only [Act.put, List.setIfInBounds_toArray, List.set_cons_zero, List.set_cons_succ]
         replace dC := dC.to hz
         replace yC := yC.to hz
         replace dX := dX.to hz
         replace yX := yX.to hz
         replace dY := dY.to hz
         replace yY := yY.to hz
         replace ff := ff.trans (hz.mono ff.size)
         have yH := x7.to hz
         clear hz x7
         clear dH yH))
    have w1m : IntKind.i64.wrap (1 + m) = 1 + m := IntWalk.i64_in _ (by omega)
    refine wp_region_P (.take 0 (.take 1 (.take 4 (.two 2 (.take 3 (.two 5 (.take 6 (.take 7 (.take 8 (.one 9 (.one 10 (.take 11 .done)))))) 9 (.one 5 (.take 6 (.take 7 (.take 8 (.one 10 (.take 11 .done)))))))) 9 (.one 2 (.take 3 (.one 5 (.take 6 (.take 7 (.take 8 (.one 10 (.take 11 .done)))))))))))) (Below wz7.heap.size) (by kernel_rfl) (by kernel_rfl) (by kernel_rfl) (by decide +kernel) (Below.refl _) (fun _ _ _ => Below.trans) (by intro d v c a w h; first | (cases d <;> exact h) | exact absurd h.1 (by simp)) ?_
    have bC : Blk wz7.drew C 30 (coC vt2 vc2 cC) := dC
    have bX : Blk wz7.drew wy4.heap.size 30 (coC vt4 vc4 cM) := dX
    have bY : Blk wz7.drew wy5.heap.size 30 (coC vt5 vc5 cM) := dY
    have zC := yC.drew
    have zX := yX.drew
    have zY := yY.drew
    have fg := ff.drew
    clear dC yC dX yX dY yY ff
    have hsz : wz7.heap.size = wz7.drew.heap.size := rfl
    rw [hsz]
    clear hsz
    generalize wz7.drew = U0 at *
    refine wpP_load rfl (by rfl) _ _ rfl C 0 rfl (coC vt2 vc2 cC) _ (fun w' hw' => (bC.below hw' bC.lt).range) Try.underlying30 rfl I2.out ?_; simp only [Act.put, List.setIfInBounds_toArray, List.set_cons_zero, List.set_cons_succ]
    first | (refine wpP_quiet (v := ?_) rfl (by rfl) ?_ ?_; rotate_left; (· (intro w' hw'; go_simp; try with_reducible rfl)); simp only [Act.put, List.setIfInBounds_toArray, List.set_cons_zero, List.set_cons_succ]) | (refine wpP_skip rfl (by rfl) ?_; simp only [Act.put, List.setIfInBounds_toArray, List.set_cons_zero, List.set_cons_succ])
    refine wpP_build rfl (by rfl) _ _ rfl _ (by exact builtC8) ?_; simp only [Act.put, List.setIfInBounds_toArray, List.set_cons_zero, List.set_cons_succ]
    refine wpP_two ?_ ?_
    · refine wpP_loud rfl (by rfl) ?_
      intro K hK
      go_simp
      refine (within_capstanlaw17 wh 9 U0 (by omega) (by omega) w_lo w_hi).mono ?_
      rintro e w9 ⟨rfl, rfl⟩
      rw [HM.out]
      refine hK.out _ _ (Below.refl _ _) ?_
      clear hK K
      try simp only [Act.put, List.setIfInBounds_toArray, List.set_cons_zero, List.set_cons_succ]
      first | (refine wpP_quiet (v := ?_) rfl (by rfl) ?_ ?_; rotate_left; (· (intro w' hw'; go_simp; try with_reducible rfl)); simp only [Act.put, List.setIfInBounds_toArray, List.set_cons_zero, List.set_cons_succ]) | (refine wpP_skip rfl (by rfl) ?_; simp only [Act.put, List.setIfInBounds_toArray, List.set_cons_zero, List.set_cons_succ])
      refine wpP_two ?_ ?_
      · refine wpP_loud rfl (by rfl) ?_
        intro K hK
        go_simp
        refine (middle_err _ cC KC.out 2 (1 + m) 5 (one_ 8) rfl 2 (one_past CC.out 2 5 (1 + m) (by omega) YES2.out YES5.out) (by decide) U0 zC).mono ?_
        rintro en V1 ⟨v9, rfl, hs, hb⟩
        obtain ⟨vt9, vc9, rfl, ht, hc⟩ := hs [] (fun _ h => by cases h)
        have o9t := ht.one
        have o9c := hc.one
        have I9 := Lib.hid (info_co (vt := vt9) (vc := vc9) (c := cC) KC.out.pre KC.out.bank)
        have L9 : Hid ((coC vt9 vc9 cC).length = 43) := Lib.hid (coC_len (c := cC) KC.out.pre KC.out.bank)
        clear hs ht hc
        refine hK.out _ _ hb ?_
        clear hK K
        try simp only [Act.put, List.setIfInBounds_toArray, List.set_cons_zero, List.set_cons_succ]
        have f2 : Below U0.heap.size U0 V1 := hb
        clear hb
        first | (refine wpP_quiet (v := ?_) rfl (by rfl) ?_ ?_; rotate_left; (· (intro w' hw'; go_simp; try with_reducible rfl)); simp only [Act.put, List.setIfInBounds_toArray, List.set_cons_zero, List.set_cons_succ]) | (refine wpP_skip rfl (by rfl) ?_; simp only [Act.put, List.setIfInBounds_toArray, List.set_cons_zero, List.set_cons_succ])
        first | (refine wpP_quiet (v := ?_) rfl (by rfl) ?_ ?_; rotate_left; (· (intro w' hw'; go_simp; try with_reducible rfl)); simp only [Act.put, List.setIfInBounds_toArray, List.set_cons_zero, List.set_cons_succ]) | (refine wpP_skip rfl (by rfl) ?_; simp only [Act.put, List.setIfInBounds_toArray, List.set_cons_zero, List.set_cons_succ])
        first | (refine wpP_quiet (v := ?_) rfl (by rfl) ?_ ?_; rotate_left; (· (intro w' hw'; go_simp; try with_reducible rfl)); simp only [Act.put, List.setIfInBounds_toArray, List.set_cons_zero, List.set_cons_succ]) | (refine wpP_skip rfl (by rfl) ?_; simp only [Act.put, List.setIfInBounds_toArray, List.set_cons_zero, List.set_cons_succ])
        refine wpP_one ?_
        refine wpP_loud rfl (by rfl) ?_
        intro K hK
        go_simp
        refine hK.out _ _ ((Below.refl _ _).alloc (by exact f2.size) _) ?_
        clear hK K
        try simp only [Act.put, List.setIfInBounds_toArray, List.set_cons_zero, List.set_cons_succ]
        have bG : Blk (V1.alloc (.cells #[.int .i64 0, .int .u8 0, .int .u8 0, .int .u8 0, .int .u8 0, .int .u8 0, .int .u8 0, .int .u8 0, .int .u8 0, .int .u8 0, .int .u8 0, .int .u8 0, .int .u8 0, .int .u8 0, .int .u8 0, .int .u8 0, .int .u8 0, .int .u8 0, .int .u8 0, .int .u8 0, .int .u8 0, .int .u8 0, .int .u8 0, .int .u8 0, .int .u8 0, .int .u8 0, .int .u8 0, .int .u8 0, .int .u8 0, .int .u8 0, .int .u8 0, .int .u8 0, .int .u8 0, .slice none 0 0, .int .i64 0, .int .i64 0, .int .i64 0, .int .i64 0, .int .i64 0, .int .i64 0, .int .i64 0, .int .i64 0, .slice none 0 0] 30)) V1.heap.size 30 zeroCC := Blk.new V1 #[.int .i64 0, .int .u8 0, .int .u8 0, .int .u8 0, .int .u8 0, .int .u8 0, .int .u8 0, .int .u8 0, .int .u8 0, .int .u8 0, .int .u8 0, .int .u8 0, .int .u8 0, .int .u8 0, .int .u8 0, .int .u8 0, .int .u8 0, .int .u8 0, .int .u8 0, .int .u8 0, .int .u8 0, .int .u8 0, .int .u8 0, .int .u8 0, .int .u8 0, .int .u8 0, .int .u8 0, .int .u8 0, .int .u8 0, .int .u8 0, .int .u8 0, .int .u8 0, .int .u8 0, .slice none 0 0, .int .i64 0, .int .i64 0, .int .i64 0, .int .i64 0, .int .i64 0, .int .i64 0, .int .i64 0, .int .i64 0, .slice none 0 0] 30
        have hVG : U0.heap.size ≤ V1.heap.size := f2.size
        replace f2 : Below U0.heap.size U0 (V1.alloc (.cells #[.int .i64 0, .int .u8 0, .int .u8 0, .int .u8 0, .int .u8 0, .int .u8 0, .int .u8 0, .int .u8 0, .int .u8 0, .int .u8 0, .int .u8 0, .int .u8 0, .int .u8 0, .int .u8 0, .int .u8 0, .int .u8 0, .int .u8 0, .int .u8 0, .int .u8 0, .int .u8 0, .int .u8 0, .int .u8 0, .int .u8 0, .int .u8 0, .int .u8 0, .int .u8 0, .int .u8 0, .int .u8 0, .int .u8 0, .int .u8 0, .int .u8 0, .int .u8 0, .int .u8 0, .slice none 0 0, .int .i64 0, .int .i64 0, .int .i64 0, .int .i64 0, .int .i64 0, .int .i64 0, .int .i64 0, .int .i64 0, .slice none 0 0] 30)) := f2.alloc (by exact f2.size) _
        generalize V1.alloc (.cells #[.int .i64 0, .int .u8 0, .int .u8 0, .int .u8 0, .int .u8 0, .int .u8 0, .int .u8 0, .int .u8 0, .int .u8 0, .int .u8 0, .int .u8 0, .int .u8 0, .int .u8 0, .int .u8 0, .int .u8 0, .int .u8 0, .int .u8 0, .int .u8 0, .int .u8 0, .int .u8 0, .int .u8 0, .int .u8 0, .int .u8 0, .int .u8 0, .int .u8 0, .int .u8 0, .int .u8 0, .int .u8 0, .int .u8 0, .int .u8 0, .int .u8 0, .int .u8 0, .int .u8 0, .slice none 0 0, .int .i64 0, .int .i64 0, .int .i64 0, .int .i64 0, .int .i64 0, .int .i64 0, .int .i64 0, .int .i64 0, .slice none 0 0] 30) = V2 at *
        generalize hG : V1.heap.size = G at *
        refine wpP_one ?_
        refine wpP_loud rfl (by rfl) ?_
        intro K hK
        refine wp_store_fld _ _ _ rfl G 0 _ _ (coC vt9 vc9 cC) rfl _ rfl rfl bG (by rw [L9.out]; exact Nat.le_refl _) I9.out (coC_one o9t o9c) ?_
        intro V3 bG3 bu3
        refine hK.out _ _ (below_but bu3 hVG f2.size) ?_
        clear hK K
        try simp only [Act.put, List.setIfInBounds_toArray, List.set_cons_zero, List.set_cons_succ]
        first | (refine wpP_quiet (v := ?_) rfl (by rfl) ?_ ?_; rotate_left; (· (intro w' hw'; go_simp; try with_reducible rfl)); simp only [Act.put, List.setIfInBounds_toArray, List.set_cons_zero, List.set_cons_succ]) | (refine wpP_skip rfl (by rfl) ?_; simp only [Act.put, List.setIfInBounds_toArray, List.set_cons_zero, List.set_cons_succ])
        refine wpP_done ?_
        have f3 := f2.trans (below_but bu3 hVG f2.size)
        have dX := bX.to f3
        have dY := bY.to f3
        have yX := zX.to f3
        have yY := zY.to f3
        have ff := fg.trans (f3.mono fg.size)
        clear f3 f2 bu3 bG3 bG hVG hG
        go_wp2_with (first
          | (refine wpl_load_fld (by rfl) _ _ rfl wy4.heap.size 0 rfl (coC vt4 vc4 cM) _ dX.range Try.underlying30 rfl I4.out ?_)
          | (refine wpl_load_fld (by rfl) _ _ rfl wy5.heap.size 0 rfl (coC vt5 vc5 cM) _ dY.range Try.underlying30 rfl I5.out ?_))
        refine (sameC_any _ _ cM KM.out V3 yX yY).mono ?_
        rintro e wq ⟨rfl, hb⟩
        replace ff := ff.trans (hb.mono ff.size)
        go_wp2_with fail
        go_ret
        exact ⟨rfl, ff⟩
      · refine wpP_loud rfl (by rfl) ?_
        intro K hK
        go_simp
        refine hK.out _ _ ((Below.refl _ _).alloc (Nat.le_refl _) _) ?_
        clear hK K
        try simp only [Act.put, List.setIfInBounds_toArray, List.set_cons_zero, List.set_cons_succ]
        have bG : Blk (U0.alloc (.cells #[.int .i64 0, .int .u8 0, .int .u8 0, .int .u8 0, .int .u8 0, .int .u8 0, .int .u8 0, .int .u8 0, .int .u8 0, .int .u8 0, .int .u8 0, .int .u8 0, .int .u8 0, .int .u8 0, .int .u8 0, .int .u8 0, .int .u8 0, .int .u8 0, .int .u8 0, .int .u8 0, .int .u8 0, .int .u8 0, .int .u8 0, .int .u8 0, .int .u8 0, .int .u8 0, .int .u8 0, .int .u8 0, .int .u8 0, .int .u8 0, .int .u8 0, .int .u8 0, .int .u8 0, .slice none 0 0, .int .i64 0, .int .i64 0, .int .i64 0, .int .i64 0, .int .i64 0, .int .i64 0, .int .i64 0, .int .i64 0, .slice none 0 0] 30)) U0.heap.size 30 zeroCC := Blk.new U0 #[.int .i64 0, .int .u8 0, .int .u8 0, .int .u8 0, .int .u8 0, .int .u8 0, .int .u8 0, .int .u8 0, .int .u8 0, .int .u8 0, .int .u8 0, .int .u8 0, .int .u8 0, .int .u8 0, .int .u8 0, .int .u8 0, .int .u8 0, .int .u8 0, .int .u8 0, .int .u8 0, .int .u8 0, .int .u8 0, .int .u8 0, .int .u8 0, .int .u8 0, .int .u8 0, .int .u8 0, .int .u8 0, .int .u8 0, .int .u8 0, .int .u8 0, .int .u8 0, .int .u8 0, .slice none 0 0, .int .i64 0, .int .i64 0, .int .i64 0, .int .i64 0, .int .i64 0, .int .i64 0, .int .i64 0, .int .i64 0, .slice none 0 0] 30
        have f2 : Below U0.heap.size U0 (U0.alloc (.cells #[.int .i64 0, .int .u8 0, .int .u8 0, .int .u8 0, .int .u8 0, .int .u8 0, .int .u8 0, .int .u8 0, .int .u8 0, .int .u8 0, .int .u8 0, .int .u8 0, .int .u8 0, .int .u8 0, .int .u8 0, .int .u8 0, .int .u8 0, .int .u8 0, .int .u8 0, .int .u8 0, .int .u8 0, .int .u8 0, .int .u8 0, .int .u8 0, .int .u8 0, .int .u8 0, .int .u8 0, .int .u8 0, .int .u8 0, .int .u8 0, .int .u8 0, .int .u8 0, .int .u8 0, .slice none 0 0, .int .i64 0, .int .i64 0, .int .i64 0, .int .i64 0, .int .i64 0, .int .i64 0, .int .i64 0, .int .i64 0, .slice none 0 0] 30)) := (Below.refl _ _).alloc (Nat.le_refl _) _
        generalize U0.alloc (.cells #[.int .i64 0, .int .u8 0, .int .u8 0, .int .u8 0, .int .u8 0, .int .u8 0, .int .u8 0, .int .u8 0, .int .u8 0, .int .u8 0, .int .u8 0, .int .u8 0, .int .u8 0, .int .u8 0, .int .u8 0, .int .u8 0, .int .u8 0, .int .u8 0, .int .u8 0, .int .u8 0, .int .u8 0, .int .u8 0, .int .u8 0, .int .u8 0, .int .u8 0, .int .u8 0, .int .u8 0, .int .u8 0, .int .u8 0, .int .u8 0, .int .u8 0, .int .u8 0, .int .u8 0, .slice none 0 0, .int .i64 0, .int .i64 0, .int .i64 0, .int .i64 0, .int .i64 0, .int .i64 0, .int .i64 0, .int .i64 0, .slice none 0 0] 30) = V2 at *
        obtain ⟨G, hG⟩ : ∃ G, U0.heap.size = G := ⟨_, rfl⟩
        rw [show Blk V2 U0.heap.size 30 zeroCC = Blk V2 G 30 zeroCC from by rw [hG]] at bG
        have hVG : U0.heap.size ≤ G := by omega
        refine wpP_one ?_
        refine wpP_loud rfl (by rfl) ?_
        intro K hK
        go_simp
        refine (middle_err _ cC KC.out 2 (1 + m) 5 (one_ 8) rfl 2 (one_past CC.out 2 5 (1 + m) (by omega) YES2.out YES5.out) (by decide) V2 (zC.to f2)).mono ?_
        rintro en V1 ⟨v9, rfl, hs, hb⟩
        obtain ⟨vt9, vc9, rfl, ht, hc⟩ := hs [] (fun _ h => by cases h)
        have o9t := ht.one
        have o9c := hc.one
        have I9 := Lib.hid (info_co (vt := vt9) (vc := vc9) (c := cC) KC.out.pre KC.out.bank)
        have L9 : Hid ((coC vt9 vc9 cC).length = 43) := Lib.hid (coC_len (c := cC) KC.out.pre KC.out.bank)
        clear hs ht hc
        refine hK.out _ _ (hb.mono f2.size) ?_
        clear hK K
        try simp only [Act.put, List.setIfInBounds_toArray, List.set_cons_zero, List.set_cons_succ]
        replace bG := bG.to hb
        replace f2 := f2.trans (hb.mono f2.size)
        clear hb
        first | (refine wpP_quiet (v := ?_) rfl (by rfl) ?_ ?_; rotate_left; (· (intro w' hw'; go_simp; try with_reducible rfl)); simp only [Act.put, List.setIfInBounds_toArray, List.set_cons_zero, List.set_cons_succ]) | (refine wpP_skip rfl (by rfl) ?_; simp only [Act.put, List.setIfInBounds_toArray, List.set_cons_zero, List.set_cons_succ])
        first | (refine wpP_quiet (v := ?_) rfl (by rfl) ?_ ?_; rotate_left; (· (intro w' hw'; go_simp; try with_reducible rfl)); simp only [Act.put, List.setIfInBounds_toArray, List.set_cons_zero, List.set_cons_succ]) | (refine wpP_skip rfl (by rfl) ?_; simp only [Act.put, List.setIfInBounds_toArray, List.set_cons_zero, List.set_cons_succ])
        first | (refine wpP_quiet (v := ?_) rfl (by rfl) ?_ ?_; rotate_left; (· (intro w' hw'; go_simp; try with_reducible rfl)); simp only [Act.put, List.setIfInBounds_toArray, List.set_cons_zero, List.set_cons_succ]) | (refine wpP_skip rfl (by rfl) ?_; simp only [Act.put, List.setIfInBounds_toArray, List.set_cons_zero, List.set_cons_succ])
        refine wpP_one ?_
        refine wpP_loud rfl (by rfl) ?_
        intro K hK
        refine wp_store_fld _ _ _ rfl G 0 _ _ (coC vt9 vc9 cC) rfl _ rfl rfl bG (by rw [L9.out]; exact Nat.le_refl _) I9.out (coC_one o9t o9c) ?_
        intro V3 bG3 bu3
        refine hK.out _ _ (below_but bu3 hVG f2.size) ?_
        clear hK K
        try simp only [Act.put, List.setIfInBounds_toArray, List.set_cons_zero, List.set_cons_succ]
        first | (refine wpP_quiet (v := ?_) rfl (by rfl) ?_ ?_; rotate_left; (· (intro w' hw'; go_simp; try with_reducible rfl)); simp only [Act.put, List.setIfInBounds_toArray, List.set_cons_zero, List.set_cons_succ]) | (refine wpP_skip rfl (by rfl) ?_; simp only [Act.put, List.setIfInBounds_toArray, List.set_cons_zero, List.set_cons_succ])
        refine wpP_done ?_
        have f3 := f2.trans (below_but bu3 hVG f2.size)
        have dX := bX.to f3
        have dY := bY.to f3
        have yX := zX.to f3
        have yY := zY.to f3
        have ff := fg.trans (f3.mono fg.size)
        clear f3 f2 bu3 bG3 bG hVG hG
        go_wp2_with (first
          | (refine wpl_load_fld (by rfl) _ _ rfl wy4.heap.size 0 rfl (coC vt4 vc4 cM) _ dX.range Try.underlying30 rfl I4.out ?_)
          | (refine wpl_load_fld (by rfl) _ _ rfl wy5.heap.size 0 rfl (coC vt5 vc5 cM) _ dY.range Try.underlying30 rfl I5.out ?_))
        refine (sameC_any _ _ cM KM.out V3 yX yY).mono ?_
        rintro e wq ⟨rfl, hb⟩
        replace ff := ff.trans (hb.mono ff.size)
        go_wp2_with fail
        go_ret
        exact ⟨rfl, ff⟩
    · refine wpP_loud rfl (by rfl) ?_
      intro K hK
      go_simp
      refine hK.out _ _ ((Below.refl _ _).alloc (Nat.le_refl _) _) ?_
      clear hK K
      try simp only [Act.put, List.setIfInBounds_toArray, List.set_cons_zero, List.set_cons_succ]
      have bG : Blk (U0.alloc (.cells #[.int .i64 0, .int .u8 0, .int .u8 0, .int .u8 0, .int .u8 0, .int .u8 0, .int .u8 0, .int .u8 0, .int .u8 0, .int .u8 0, .int .u8 0, .int .u8 0, .int .u8 0, .int .u8 0, .int .u8 0, .int .u8 0, .int .u8 0, .int .u8 0, .int .u8 0, .int .u8 0, .int .u8 0, .int .u8 0, .int .u8 0, .int .u8 0, .int .u8 0, .int .u8 0, .int .u8 0, .int .u8 0, .int .u8 0, .int .u8 0, .int .u8 0, .int .u8 0, .int .u8 0, .slice none 0 0, .int .i64 0, .int .i64 0, .int .i64 0, .int .i64 0, .int .i64 0, .int .i64 0, .int .i64 0, .int .i64 0, .slice none 0 0] 30)) U0.heap.size 30 zeroCC := Blk.new U0 #[.int .i64 0, .int .u8 0, .int .u8 0, .int .u8 0, .int .u8 0, .int .u8 0, .int .u8 0, .int .u8 0, .int .u8 0, .int .u8 0, .int .u8 0, .int .u8 0, .int .u8 0, .int .u8 0, .int .u8 0, .int .u8 0, .int .u8 0, .int .u8 0, .int .u8 0, .int .u8 0, .int .u8 0, .int .u8 0, .int .u8 0, .int .u8 0, .int .u8 0, .int .u8 0, .int .u8 0, .int .u8 0, .int .u8 0, .int .u8 0, .int .u8 0, .int .u8 0, .int .u8 0, .slice none 0 0, .int .i64 0, .int .i64 0, .int .i64 0, .int .i64 0, .int .i64 0, .int .i64 0, .int .i64 0, .int .i64 0, .slice none 0 0] 30
      have f2 : Below U0.heap.size U0 (U0.alloc (.cells #[.int .i64 0, .int .u8 0, .int .u8 0, .int .u8 0, .int .u8 0, .int .u8 0, .int .u8 0, .int .u8 0, .int .u8 0, .int .u8 0, .int .u8 0, .int .u8 0, .int .u8 0, .int .u8 0, .int .u8 0, .int .u8 0, .int .u8 0, .int .u8 0, .int .u8 0, .int .u8 0, .int .u8 0, .int .u8 0, .int .u8 0, .int .u8 0, .int .u8 0, .int .u8 0, .int .u8 0, .int .u8 0, .int .u8 0, .int .u8 0, .int .u8 0, .int .u8 0, .int .u8 0, .slice none 0 0, .int .i64 0, .int .i64 0, .int .i64 0, .int .i64 0, .int .i64 0, .int .i64 0, .int .i64 0, .int .i64 0, .slice none 0 0] 30)) := (Below.refl _ _).alloc (Nat.le_refl _) _
      generalize U0.alloc (.cells #[.int .i64 0, .int .u8 0, .int .u8 0, .int .u8 0, .int .u8 0, .int .u8 0, .int .u8 0, .int .u8 0, .int .u8 0, .int .u8 0, .int .u8 0, .int .u8 0, .int .u8 0, .int .u8 0, .int .u8 0, .int .u8 0, .int .u8 0, .int .u8 0, .int .u8 0, .int .u8 0, .int .u8 0, .int .u8 0, .int .u8 0, .int .u8 0, .int .u8 0, .int .u8 0, .int .u8 0, .int .u8 0, .int .u8 0, .int .u8 0, .int .u8 0, .int .u8 0, .int .u8 0, .slice none 0 0, .int .i64 0, .int .i64 0, .int .i64 0, .int .i64 0, .int .i64 0, .int .i64 0, .int .i64 0, .int .i64 0, .slice none 0 0] 30) = V2 at *
      obtain ⟨G, hG⟩ : ∃ G, U0.heap.size = G := ⟨_, rfl⟩
      rw [show Blk V2 U0.heap.size 30 zeroCC = Blk V2 G 30 zeroCC from by rw [hG]] at bG
      have hVG : U0.heap.size ≤ G := by omega
      refine wpP_one ?_
      refine wpP_loud rfl (by rfl) ?_
      intro K hK
      go_simp
      refine (within_capstanlaw17 wh 9 V2 (by omega) (by omega) w_lo w_hi).mono ?_
      rintro e w9 ⟨rfl, rfl⟩
      rw [HM.out]
      refine hK.out _ _ (Below.refl _ _) ?_
      clear hK K
      try simp only [Act.put, List.setIfInBounds_toArray, List.set_cons_zero, List.set_cons_succ]
      first | (refine wpP_quiet (v := ?_) rfl (by rfl) ?_ ?_; rotate_left; (· (intro w' hw'; go_simp; try with_reducible rfl)); simp only [Act.put, List.setIfInBounds_toArray, List.set_cons_zero, List.set_cons_succ]) | (refine wpP_skip rfl (by rfl) ?_; simp only [Act.put, List.setIfInBounds_toArray, List.set_cons_zero, List.set_cons_succ])
      refine wpP_one ?_
      refine wpP_loud rfl (by rfl) ?_
      intro K hK
      go_simp
      refine (middle_err _ cC KC.out 2 (1 + m) 5 (one_ 8) rfl 2 (one_past CC.out 2 5 (1 + m) (by omega) YES2.out YES5.out) (by decide) V2 (zC.to f2)).mono ?_
      rintro en V1 ⟨v9, rfl, hs, hb⟩
      obtain ⟨vt9, vc9, rfl, ht, hc⟩ := hs [] (fun _ h => by cases h)
      have o9t := ht.one
      have o9c := hc.one
      have I9 := Lib.hid (info_co (vt := vt9) (vc := vc9) (c := cC) KC.out.pre KC.out.bank)
      have L9 : Hid ((coC vt9 vc9 cC).length = 43) := Lib.hid (coC_len (c := cC) KC.out.pre KC.out.bank)
      clear hs ht hc
      refine hK.out _ _ (hb.mono f2.size) ?_
      clear hK K
      try simp only [Act.put, List.setIfInBounds_toArray, List.set_cons_zero, List.set_cons_succ]
      replace bG := bG.to hb
      replace f2 := f2.trans (hb.mono f2.size)
      clear hb
      first | (refine wpP_quiet (v := ?_) rfl (by rfl) ?_ ?_; rotate_left; (· (intro w' hw'; go_simp; try with_reducible rfl)); simp only [Act.put, List.setIfInBounds_toArray, List.set_cons_zero, List.set_cons_succ]) | (refine wpP_skip rfl (by rfl) ?_; simp only [Act.put, List.setIfInBounds_toArray, List.set_cons_zero, List.set_cons_succ])
      first | (refine wpP_quiet (v := ?_) rfl (by rfl) ?_ ?_; rotate_left; (· (intro w' hw'; go_simp; try with_reducible rfl)); simp only [Act.put, List.setIfInBounds_toArray, List.set_cons_zero, List.set_cons_succ]) | (refine wpP_skip rfl (by rfl) ?_; simp only [Act.put, List.setIfInBounds_toArray, List.set_cons_zero, List.set_cons_succ])
      first | (refine wpP_quiet (v := ?_) rfl (by rfl) ?_ ?_; rotate_left; (· (intro w' hw'; go_simp; try with_reducible rfl)); simp only [Act.put, List.setIfInBounds_toArray, List.set_cons_zero, List.set_cons_succ]) | (refine wpP_skip rfl (by rfl) ?_; simp only [Act.put, List.setIfInBounds_toArray, List.set_cons_zero, List.set_cons_succ])
      refine wpP_one ?_
      refine wpP_loud rfl (by rfl) ?_
      intro K hK
      refine wp_store_fld _ _ _ rfl G 0 _ _ (coC vt9 vc9 cC) rfl _ rfl rfl bG (by rw [L9.out]; exact Nat.le_refl _) I9.out (coC_one o9t o9c) ?_
      intro V3 bG3 bu3
      refine hK.out _ _ (below_but bu3 hVG f2.size) ?_
      clear hK K
      try simp only [Act.put, List.setIfInBounds_toArray, List.set_cons_zero, List.set_cons_succ]
      first | (refine wpP_quiet (v := ?_) rfl (by rfl) ?_ ?_; rotate_left; (· (intro w' hw'; go_simp; try with_reducible rfl)); simp only [Act.put, List.setIfInBounds_toArray, List.set_cons_zero, List.set_cons_succ]) | (refine wpP_skip rfl (by rfl) ?_; simp only [Act.put, List.setIfInBounds_toArray, List.set_cons_zero, List.set_cons_succ])
      refine wpP_done ?_
      have f3 := f2.trans (below_but bu3 hVG f2.size)
      have dX := bX.to f3
      have dY := bY.to f3
      have yX := zX.to f3
      have yY := zY.to f3
      have ff := fg.trans (f3.mono fg.size)
      clear f3 f2 bu3 bG3 bG hVG hG
      go_wp2_with (first
        | (refine wpl_load_fld (by rfl) _ _ rfl wy4.heap.size 0 rfl (coC vt4 vc4 cM) _ dX.range Try.underlying30 rfl I4.out ?_)
        | (refine wpl_load_fld (by rfl) _ _ rfl wy5.heap.size 0 rfl (coC vt5 vc5 cM) _ dY.range Try.underlying30 rfl I5.out ?_))
      refine (sameC_any _ _ cM KM.out V3 yX yY).mono ?_
      rintro e wq ⟨rfl, hb⟩
      replace ff := ff.trans (hb.mono ff.size)
      go_wp2_with fail
      go_ret
      exact ⟨rfl, ff⟩
  · by_cases h2 : p = 2
    · subst h2
      by_cases hr7 : 7 < r
      · have t2 : r > 7 := hr7
        have t2d : decide (7 < r) = true := decide_eq_true hr7
        go_wp2_with (first
          | (refine wpl_load_fld (by rfl) _ _ rfl C 0 rfl (coC vt2 vc2 cC) _ dC.range Try.underlying30 rfl I2.out ?_)
          | (refine wpl_build (by rfl) _ _ rfl _ (by exact builtC7) ?_))
        refine (middle_err _ cC KC.out 2 0 r (one_ 7) rfl 1 (by rw [OC.out, if_pos (.inr (fun h => by have := h.2; omega))]) (by decide) w4 yC).mono ?_
        rintro en wy3 ⟨v3, rfl, hs, hb⟩
        obtain ⟨vt3, vc3, rfl, ht, hc⟩ := hs [] (fun _ h => by cases h)
        have o3t := ht.one
        have o3c := hc.one
        have I3 := Lib.hid (info_co (vt := vt3) (vc := vc3) (c := cC) KC.out.pre KC.out.bank)
        have L3 : Hid ((coC vt3 vc3 cC).length = 43) := Lib.hid (coC_len (c := cC) KC.out.pre KC.out.bank)
        have x3 : CoX [] wy3 (.agg (coC vt3 vc3 cC).toArray) cC := ⟨vt3, vc3, rfl, ht, hc⟩
        clear hs ht hc
        replace dC := dC.to hb
        replace yC := yC.to hb
        replace ff := ff.trans (hb.mono ff.size)
        clear hb
        go_wp2_with (first
          | (refine wpl_store_new rfl _ _ _ rfl 30 _ (coC vt3 vc3 cC) rfl rfl (by rw [L3.out]; rfl) I3.out (coC_one o3t o3c) ?_
             intro wz3 dD hz
             simp only [Act.put, List.setIfInBounds_toArray, List.set_cons_zero, List.set_cons_succ]
             replace dC := dC.to hz
             replace yC := yC.to hz
             replace ff := ff.trans (hz.mono ff.size)
             have yD := x3.to hz
             clear hz x3)
          | (refine wpl_load_fld (by rfl) _ _ rfl C 0 rfl (coC vt2 vc2 cC) _ dC.range Try.underlying30 rfl I2.out ?_)
          | (refine wpl_load_fld (by rfl) _ _ rfl wy3.heap.size 0 rfl (coC vt3 vc3 cC) _ dD.range Try.underlying30 rfl I3.out ?_))
        refine (sameC_any _ _ cC KC.out wz3 yC yD).mono ?_
        rintro e wq ⟨rfl, hb⟩
        clear dD yD
        replace dC := dC.to hb
        replace yC := yC.to hb
        replace ff := ff.trans (hb.mono ff.size)
        clear hb
        go_wp2_with (first
          | (refine wpl_load_fld (by rfl) _ _ rfl C 0 rfl (coC vt2 vc2 cC) _ dC.range Try.underlying30 rfl I2.out ?_)
          | (refine wpl_build (by rfl) _ _ rfl _ (by exact builtC7) ?_))
        refine (middle_ok _ cC KC.out 2 5 (one_ 7) rfl mvX CC.out 0 mvSu rfl (mv_hne _) (by decide) (mv_hsb _) BC.out (by decide) (by decide) (by rw [OC.out, if_neg (by intro h; rcases h with h | h; exact h YES2.out; exact h YES5.out), if_neg (by decide), if_pos rfl]; rfl) wq yC).mono ?_
        rw [R1.out]
        rintro en wy4 ⟨v4, rfl, hs, hb⟩
        obtain ⟨vt4, vc4, rfl, ht, hc⟩ := hs [] (fun _ h => by cases h)
        have o4t := ht.one
        have o4c := hc.one
        have I4 := Lib.hid (info_co (vt := vt4) (vc := vc4) (c := cM) KM.out.pre KM.out.bank)
        have L4 : Hid ((coC vt4 vc4 cM).length = 43) := Lib.hid (coC_len (c := cM) KM.out.pre KM.out.bank)
        have x4 : CoX [] wy4 (.agg (coC vt4 vc4 cM).toArray) cM := ⟨vt4, vc4, rfl, ht, hc⟩
        clear hs ht hc
        replace dC := dC.to hb
        replace yC := yC.to hb
        replace ff := ff.trans (hb.mono ff.size)
        clear hb
        go_wp2_with (first
          | (refine wpl_store_new rfl _ _ _ rfl 30 _ (coC vt4 vc4 cM) rfl rfl (by rw [L4.out]; rfl) I4.out (coC_one o4t o4c) ?_
             intro wz4 dX hz
             simp only [Act.put, List.setIfInBounds_toArray, List.set_cons_zero, List.set_cons_succ]
             replace dC := dC.to hz
             replace yC := yC.to hz
             replace ff := ff.trans (hz.mono ff.size)
             have yX := x4.to hz
             clear hz x4)
          | (refine wpl_load_fld (by rfl) _ _ rfl wy4.heap.size 0 rfl (coC vt4 vc4 cM) _ dX.range Try.underlying30 rfl I4.out ?_))
        refine (side_err _ cM KM.out 2 0 true (YES2.out) 2 (by rw [PM.out, if_neg (by omega)]) (by decide) wz4 yX).mono ?_
        rintro en wy5 ⟨v5, rfl, hs, hb⟩
        obtain ⟨vt5, vc5, rfl, ht, hc⟩ := hs [] (fun _ h => by cases h)
        have o5t := ht.one
        have o5c := hc.one
        have I5 := Lib.hid (info_co (vt := vt5) (vc := vc5) (c := cM) KM.out.pre KM.out.bank)
        have L5 : Hid ((coC vt5 vc5 cM).length = 43) := Lib.hid (coC_len (c := cM) KM.out.pre KM.out.bank)
        have x5 : CoX [] wy5 (.agg (coC vt5 vc5 cM).toArray) cM := ⟨vt5, vc5, rfl, ht, hc⟩
        clear hs ht hc
        replace dC := dC.to hb
        replace yC := yC.to hb
        replace dX := dX.to hb
        replace yX := yX.to hb
        replace ff := ff.trans (hb.mono ff.size)
        clear hb
        go_wp2_with (first
          | (refine wpl_store_new rfl _ _ _ rfl 30 _ (coC vt5 vc5 cM) rfl rfl (by rw [L5.out]; rfl) I5.out (coC_one o5t o5c) ?_
             intro wz5 dY hz
             simp only [Act.put, List.setIfInBounds_toArray, List.set_cons_zero, List.set_cons_succ]
             replace dC := dC.to hz
             replace yC := yC.to hz
             replace dX := dX.to hz
             replace yX := yX.to hz
             replace ff := ff.trans (hz.mono ff.size)
             have yY := x5.to hz
             clear hz x5)
          | (refine wpl_load_fld (by rfl) _ _ rfl wy4.heap.size 0 rfl (coC vt4 vc4 cM) _ dX.range Try.underlying30 rfl I4.out ?_)
          | (refine wpl_build (by rfl) _ _ rfl _ (by exact builtC8) ?_))
        refine (middle_ok _ cM KM.out 2 5 (one_ 8) rfl mvX2 CM.out 0 mvSu2 rfl (mv_hne _) (by decide) (mv_hsb _) BM.out (by decide) (by decide) (by rw [OM.out, if_neg (by intro h; rcases h with h | h; exact h YES2.out; exact h YES5.out), if_neg (by decide), if_pos rfl]; rfl) wz5 yX).mono ?_
        rw [R2.out]
        rintro en wy6 ⟨v6, rfl, hs, hb⟩
        obtain ⟨vt6, vc6, rfl, ht, hc⟩ := hs [] (fun _ h => by cases h)
        have o6t := ht.one
        have o6c := hc.one
        have I6 := Lib.hid (info_co (vt := vt6) (vc := vc6) (c := cM) KM.out.pre KM.out.bank)
        have L6 : Hid ((coC vt6 vc6 cM).length = 43) := Lib.hid (coC_len (c := cM) KM.out.pre KM.out.bank)
        have x6 : CoX [] wy6 (.agg (coC vt6 vc6 cM).toArray) cM := ⟨vt6, vc6, rfl, ht, hc⟩
        clear hs ht hc
        replace dC := dC.to hb
        replace yC := yC.to hb
        replace dX := dX.to hb
        replace yX := yX.to hb
        replace dY := dY.to hb
        replace yY := yY.to hb
        replace ff := ff.trans (hb.mono ff.size)
        clear hb
        go_wp2_with (first
          | (refine wpl_store_new rfl _ _ _ rfl 30 _ (coC vt6 vc6 cM) rfl rfl (by rw [L6.out]; rfl) I6.out (coC_one o6t o6c) ?_
             intro wz6 dG hz
             simp only [Act.put, List.setIfInBounds_toArray, List.set_cons_zero, List.set_cons_succ]
             replace dC := dC.to hz
             replace yC := yC.to hz
             replace dX := dX.to hz
             replace yX := yX.to hz
             replace dY := dY.to hz
             replace yY := yY.to hz
             replace ff := ff.trans (hz.mono ff.size)
             have yG := x6.to hz
             clear hz x6
             clear dG yG)
          | (refine wpl_load_fld (by rfl) _ _ rfl C 0 rfl (coC vt2 vc2 cC) _ dC.range Try.underlying30 rfl I2.out ?_))
        refine (side_ok _ cC KC.out 5 true YES5.out mvX CC.out 0 mvSu rfl (mv_hne _) (by decide) (mv_hsb _) BC.out (by decide) (by decide) (by decide) (by decide) (by decide) (by rw [PC.out, if_pos rfl]; rfl) wz6 yC).mono ?_
        rw [R3.out]
        rintro en wy7 ⟨v7, rfl, hs, hb⟩
        obtain ⟨vt7, vc7, rfl, ht, hc⟩ := hs [] (fun _ h => by cases h)
        have o7t := ht.one
        have o7c := hc.one
        have I7 := Lib.hid (info_co (vt := vt7) (vc := vc7) (c := cC) KC.out.pre KC.out.bank)
        have L7 : Hid ((coC vt7 vc7 cC).length = 43) := Lib.hid (coC_len (c := cC) KC.out.pre KC.out.bank)
        have x7 : CoX [] wy7 (.agg (coC vt7 vc7 cC).toArray) cC := ⟨vt7, vc7, rfl, ht, hc⟩
        clear hs ht hc
        replace dC := dC.to hb
        replace yC := yC.to hb
        replace dX := dX.to hb
        replace yX := yX.to hb
        replace dY := dY.to hb
        replace yY := yY.to hb
        replace ff := ff.trans (hb.mono ff.size)
        clear hb
        go_wp2_with (first
          | (refine wpl_store_new rfl _ _ _ rfl 30 _ (coC vt7 vc7 cC) rfl rfl (by rw [L7.out]; rfl) I7.out (coC_one o7t o7c) ?_
             intro wz7 dH hz
             simp only [Act.put, List.setIfInBounds_toArray, List.set_cons_zero, List.set_cons_succ]
             replace dC := dC.to hz
             replace yC := yC.to hz
             replace dX := dX.to hz
             replace yX := yX.to hz
             replace dY := dY.to hz
             replace yY := yY.to hz
             replace ff := ff.trans (hz.mono ff.size)
             have yH := x7.to hz
             clear hz x7
             clear dH yH))
        have w1m : IntKind.i64.wrap (1 + m) = 1 + m := IntWalk.i64_in _ (by omega)
        refine wp_region_P (.take 0 (.take 1 (.take 4 (.two 2 (.take 3 (.two 5 (.take 6 (.take 7 (.take 8 (.one 9 (.one 10 (.take 11 .done)))))) 9 (.one 5 (.take 6 (.take 7 (.take 8 (.one 10 (.take 11 .done)))))))) 9 (.one 2 (.take 3 (.one 5 (.take 6 (.take 7 (.take 8 (.one 10 (.take 11 .done)))))))))))) (Below wz7.heap.size) (by kernel_rfl) (by kernel_rfl) (by kernel_rfl) (by decide +kernel) (Below.refl _) (fun _ _ _ => Below.trans) (by intro d v c a w h; first | (cases d <;> exact h) | exact absurd h.1 (by simp)) ?_
        have bC : Blk wz7.drew C 30 (coC vt2 vc2 cC) := dC
        have bX : Blk wz7.drew wy4.heap.size 30 (coC vt4 vc4 cM) := dX
        have bY : Blk wz7.drew wy5.heap.size 30 (coC vt5 vc5 cM) := dY
        have zC := yC.drew
        have zX := yX.drew
        have zY := yY.drew
        have fg := ff.drew
        clear dC yC dX yX dY yY ff
        have hsz : wz7.heap.size = wz7.drew.heap.size := rfl
        rw [hsz]
        clear hsz
        generalize wz7.drew = U0 at *
        refine wpP_load rfl (by rfl) _ _ rfl C 0 rfl (coC vt2 vc2 cC) _ (fun w' hw' => (bC.below hw' bC.lt).range) Try.underlying30 rfl I2.out ?_; simp only [Act.put, List.setIfInBounds_toArray, List.set_cons_zero, List.set_cons_succ]
        first | (refine wpP_quiet (v := ?_) rfl (by rfl) ?_ ?_; rotate_left; (· (intro w' hw'; go_simp; try with_reducible rfl)); simp only [Act.put, List.setIfInBounds_toArray, List.set_cons_zero, List.set_cons_succ]) | (refine wpP_skip rfl (by rfl) ?_; simp only [Act.put, List.setIfInBounds_toArray, List.set_cons_zero, List.set_cons_succ])
        refine wpP_build rfl (by rfl) _ _ rfl _ (by exact builtC8) ?_; simp only [Act.put, List.setIfInBounds_toArray, List.set_cons_zero, List.set_cons_succ]
        refine wpP_two ?_ ?_
        · refine wpP_loud rfl (by rfl) ?_
          intro K hK
          go_simp
          refine (within_capstanlaw17 wh 9 U0 (by omega) (by omega) w_lo w_hi).mono ?_
          rintro e w9 ⟨rfl, rfl⟩
          rw [HM.out]
          refine hK.out _ _ (Below.refl _ _) ?_
          clear hK K
          try simp only [Act.put, List.setIfInBounds_toArray, List.set_cons_zero, List.set_cons_succ]
          first | (refine wpP_quiet (v := ?_) rfl (by rfl) ?_ ?_; rotate_left; (· (intro w' hw'; go_simp; try with_reducible rfl)); simp only [Act.put, List.setIfInBounds_toArray, List.set_cons_zero, List.set_cons_succ]) | (refine wpP_skip rfl (by rfl) ?_; simp only [Act.put, List.setIfInBounds_toArray, List.set_cons_zero, List.set_cons_succ])
          refine wpP_two ?_ ?_
          · refine wpP_loud rfl (by rfl) ?_
            intro K hK
            go_simp
            refine (middle_err _ cC KC.out 2 (1 + m) 5 (one_ 8) rfl 2 (one_past CC.out 2 5 (1 + m) (by omega) YES2.out YES5.out) (by decide) U0 zC).mono ?_
            rintro en V1 ⟨v9, rfl, hs, hb⟩
            obtain ⟨vt9, vc9, rfl, ht, hc⟩ := hs [] (fun _ h => by cases h)
            have o9t := ht.one
            have o9c := hc.one
            have I9 := Lib.hid (info_co (vt := vt9) (vc := vc9) (c := cC) KC.out.pre KC.out.bank)
            have L9 : Hid ((coC vt9 vc9 cC).length = 43) := Lib.hid (coC_len (c := cC) KC.out.pre KC.out.bank)
            clear hs ht hc
            refine hK.out _ _ hb ?_
            clear hK K
            try simp only [Act.put, List.setIfInBounds_toArray, List.set_cons_zero, List.set_cons_succ]
            have f2 : Below U0.heap.size U0 V1 := hb
            clear hb
            first | (refine wpP_quiet (v := ?_) rfl (by rfl) ?_ ?_; rotate_left; (· (intro w' hw'; go_simp; try with_reducible rfl)); simp only [Act.put, List.setIfInBounds_toArray, List.set_cons_zero, List.set_cons_succ]) | (refine wpP_skip rfl (by rfl) ?_; simp only [Act.put, List.setIfInBounds_toArray, List.set_cons_zero, List.set_cons_succ])
            first | (refine wpP_quiet (v := ?_) rfl (by rfl) ?_ ?_; rotate_left; (· (intro w' hw'; go_simp; try with_reducible rfl)); simp only [Act.put, List.setIfInBounds_toArray, List.set_cons_zero, List.set_cons_succ]) | (refine wpP_skip rfl (by rfl) ?_; simp only [Act.put, List.setIfInBounds_toArray, List.set_cons_zero, List.set_cons_succ])
            first | (refine wpP_quiet (v := ?_) rfl (by rfl) ?_ ?_; rotate_left; (· (intro w' hw'; go_simp; try with_reducible rfl)); simp only [Act.put, List.setIfInBounds_toArray, List.set_cons_zero, List.set_cons_succ]) | (refine wpP_skip rfl (by rfl) ?_; simp only [Act.put, List.setIfInBounds_toArray, List.set_cons_zero, List.set_cons_succ])
            refine wpP_one ?_
            refine wpP_loud rfl (by rfl) ?_
            intro K hK
            go_simp
            refine hK.out _ _ ((Below.refl _ _).alloc (by exact f2.size) _) ?_
            clear hK K
            try simp only [Act.put, List.setIfInBounds_toArray, List.set_cons_zero, List.set_cons_succ]
            have bG : Blk (V1.alloc (.cells #[.int .i64 0, .int .u8 0, .int .u8 0, .int .u8 0, .int .u8 0, .int .u8 0, .int .u8 0, .int .u8 0, .int .u8 0, .int .u8 0, .int .u8 0, .int .u8 0, .int .u8 0, .int .u8 0, .int .u8 0, .int .u8 0, .int .u8 0, .int .u8 0, .int .u8 0, .int .u8 0, .int .u8 0, .int .u8 0, .int .u8 0, .int .u8 0, .int .u8 0, .int .u8 0, .int .u8 0, .int .u8 0, .int .u8 0, .int .u8 0, .int .u8 0, .int .u8 0, .int .u8 0, .slice none 0 0, .int .i64 0, .int .i64 0, .int .i64 0, .int .i64 0, .int .i64 0, .int .i64 0, .int .i64 0, .int .i64 0, .slice none 0 0] 30)) V1.heap.size 30 zeroCC := Blk.new V1 #[.int .i64 0, .int .u8 0, .int .u8 0, .int .u8 0, .int .u8 0, .int .u8 0, .int .u8 0, .int .u8 0, .int .u8 0, .int .u8 0, .int .u8 0, .int .u8 0, .int .u8 0, .int .u8 0, .int .u8 0, .int .u8 0, .int .u8 0, .int .u8 0, .int .u8 0, .int .u8 0, .int .u8 0, .int .u8 0, .int .u8 0, .int .u8 0, .int .u8 0, .int .u8 0, .int .u8 0, .int .u8 0, .int .u8 0, .int .u8 0, .int .u8 0, .int .u8 0, .int .u8 0, .slice none 0 0, .int .i64 0, .int .i64 0, .int .i64 0, .int .i64 0, .int .i64 0, .int .i64 0, .int .i64 0, .int .i64 0, .slice none 0 0] 30
            have hVG : U0.heap.size ≤ V1.heap.size := f2.size
            replace f2 : Below U0.heap.size U0 (V1.alloc (.cells #[.int .i64 0, .int .u8 0, .int .u8 0, .int .u8 0, .int .u8 0, .int .u8 0, .int .u8 0, .int .u8 0, .int .u8 0, .int .u8 0, .int .u8 0, .int .u8 0, .int .u8 0, .int .u8 0, .int .u8 0, .int .u8 0, .int .u8 0, .int .u8 0, .int .u8 0, .int .u8 0, .int .u8 0, .int .u8 0, .int .u8 0, .int .u8 0, .int .u8 0, .int .u8 0, .int .u8 0, .int .u8 0, .int .u8 0, .int .u8 0, .int .u8 0, .int .u8 0, .int .u8 0, .slice none 0 0, .int .i64 0, .int .i64 0, .int .i64 0, .int .i64 0, .int .i64 0, .int .i64 0, .int .i64 0, .int .i64 0, .slice none 0 0] 30)) := f2.alloc (by exact f2.size) _
            generalize V1.alloc (.cells #[.int .i64 0, .int .u8 0, .int .u8 0, .int .u8 0, .int .u8 0, .int .u8 0, .int .u8 0, .int .u8 0, .int .u8 0, .int .u8 0, .int .u8 0, .int .u8 0, .int .u8 0, .int .u8 0, .int .u8 0, .int .u8 0, .int .u8 0, .int .u8 0, .int .u8 0, .int .u8 0, .int .u8 0, .int .u8 0, .int .u8 0, .int .u8 0, .int .u8 0, .int .u8 0, .int .u8 0, .int .u8 0, .int .u8 0, .int .u8 0, .int .u8 0, .int .u8 0, .int .u8 0, .slice none 0 0, .int .i64 0, .int .i64 0, .int .i64 0, .int .i64 0, .int .i64 0, .int .i64 0, .int .i64 0, .int .i64 0, .slice none 0 0] 30) = V2 at *
            generalize hG : V1.heap.size = G at *
            refine wpP_one ?_
            refine wpP_loud rfl (by rfl) ?_
            intro K hK
            refine wp_store_fld _ _ _ rfl G 0 _ _ (coC vt9 vc9 cC) rfl _ rfl rfl bG (by rw [L9.out]; exact Nat.le_refl _) I9.out (coC_one o9t o9c) ?_
            intro V3 bG3 bu3
            refine hK.out _ _ (below_but bu3 hVG f2.size) ?_
            clear hK K
            try simp only [Act.put, List.setIfInBounds_toArray, List.set_cons_zero, List.set_cons_succ]
            first | (refine wpP_quiet (v := ?_) rfl (by rfl) ?_ ?_; rotate_left; (· (intro w' hw'; go_simp; try with_reducible rfl)); simp only [Act.put, List.setIfInBounds_toArray, List.set_cons_zero, List.set_cons_succ]) | (refine wpP_skip rfl (by rfl) ?_; simp only [Act.put, List.setIfInBounds_toArray, List.set_cons_zero, List.set_cons_succ])
            refine wpP_done ?_
            have f3 := f2.trans (below_but bu3 hVG f2.size)
            have dX := bX.to f3
            have dY := bY.to f3
            have yX := zX.to f3
            have yY := zY.to f3
            have ff := fg.trans (f3.mono fg.size)
            clear f3 f2 bu3 bG3 bG hVG hG
            go_wp2_with (first
              | (refine wpl_load_fld (by rfl) _ _ rfl wy4.heap.size 0 rfl (coC vt4 vc4 cM) _ dX.range Try.underlying30 rfl I4.out ?_)
              | (refine wpl_load_fld (by rfl) _ _ rfl wy5.heap.size 0 rfl (coC vt5 vc5 cM) _ dY.range Try.underlying30 rfl I5.out ?_))
            refine (sameC_any _ _ cM KM.out V3 yX yY).mono ?_
            rintro e wq ⟨rfl, hb⟩
            replace ff := ff.trans (hb.mono ff.size)
            go_wp2_with fail
            go_ret
            exact ⟨rfl, ff⟩
          · refine wpP_loud rfl (by rfl) ?_
            intro K hK
            go_simp
            refine hK.out _ _ ((Below.refl _ _).alloc (Nat.le_refl _) _) ?_
            clear hK K
            try simp only [Act.put, List.setIfInBounds_toArray, List.set_cons_zero, List.set_cons_succ]
            have bG : Blk (U0.alloc (.cells #[.int .i64 0, .int .u8 0, .int .u8 0, .int .u8 0, .int .u8 0, .int .u8 0, .int .u8 0, .int .u8 0, .int .u8 0, .int .u8 0, .int .u8 0, .int .u8 0, .int .u8 0, .int .u8 0, .int .u8 0, .int .u8 0, .int .u8 0, .int .u8 0, .int .u8 0, .int .u8 0, .int .u8 0, .int .u8 0, .int .u8 0, .int .u8 0, .int .u8 0, .int .u8 0, .int .u8 0, .int .u8 0, .int .u8 0, .int .u8 0, .int .u8 0, .int .u8 0, .int .u8 0, .slice none 0 0, .int .i64 0, .int .i64 0, .int .i64 0, .int .i64 0, .int .i64 0, .int .i64 0, .int .i64 0, .int .i64 0, .slice none 0 0] 30)) U0.heap.size 30 zeroCC := Blk.new U0 #[.int .i64 0, .int .u8 0, .int .u8 0, .int .u8 0, .int .u8 0, .int .u8 0, .int .u8 0, .int .u8 0, .int .u8 0, .int .u8 0, .int .u8 0, .int .u8 0, .int .u8 0, .int .u8 0, .int .u8 0, .int .u8 0, .int .u8 0, .int .u8 0, .int .u8 0, .int .u8 0, .int .u8 0, .int .u8 0, .int .u8 0, .int .u8 0, .int .u8 0, .int .u8 0, .int .u8 0, .int .u8 0, .int .u8 0, .int .u8 0, .int .u8 0, .int .u8 0, .int .u8 0, .slice none 0 0, .int .i64 0, .int .i64 0, .int .i64 0, .int .i64 0, .int .i64 0, .int .i64 0, .int .i64 0, .int .i64 0, .slice none 0 0] 30
            have f2 : Below U0.heap.size U0 (U0.alloc (.cells #[.int .i64 0, .int .u8 0, .int .u8 0, .int .u8 0, .int .u8 0, .int .u8 0, .int .u8 0, .int .u8 0, .int .u8 0, .int .u8 0, .int .u8 0, .int .u8 0, .int .u8 0, .int .u8 0, .int .u8 0, .int .u8 0, .int .u8 0, .int .u8 0, .int .u8 0, .int .u8 0, .int .u8 0, .int .u8 0, .int .u8 0, .int .u8 0, .int .u8 0, .int .u8 0, .int .u8 0, .int .u8 0, .int .u8 0, .int .u8 0, .int .u8 0, .int .u8 0, .int .u8 0, .slice none 0 0, .int .i64 0, .int .i64 0, .int .i64 0, .int .i64 0, .int .i64 0, .int .i64 0, .int .i64 0, .int .i64 0, .slice none 0 0] 30)) := (Below.refl _ _).alloc (Nat.le_refl _) _
            generalize U0.alloc (.cells #[.int .i64 0, .int .u8 0, .int .u8 0, .int .u8 0, .int .u8 0, .int .u8 0, .int .u8 0, .int .u8 0, .int .u8 0, .int .u8 0, .int .u8 0, .int .u8 0, .int .u8 0, .int .u8 0, .int .u8 0, .int .u8 0, .int .u8 0, .int .u8 0, .int .u8 0, .int .u8 0, .int .u8 0, .int .u8 0, .int .u8 0, .int .u8 0, .int .u8 0, .int .u8 0, .int .u8 0, .int .u8 0, .int .u8 0, .int .u8 0, .int .u8 0, .int .u8 0, .int .u8 0, .slice none 0 0, .int .i64 0, .int .i64 0, .int .i64 0, .int .i64 0, .int .i64 0, .int .i64 0, .int .i64 0, .int .i64 0, .slice none 0 0] 30) = V2 at *
            obtain ⟨G, hG⟩ : ∃ G, U0.heap.size = G := ⟨_, rfl⟩
            rw [show Blk V2 U0.heap.size 30 zeroCC = Blk V2 G 30 zeroCC from by rw [hG]] at bG
            have hVG : U0.heap.size ≤ G := by omega
            refine wpP_one ?_
            refine wpP_loud rfl (by rfl) ?_
            intro K hK
            go_simp
            refine (middle_err _ cC KC.out 2 (1 + m) 5 (one_ 8) rfl 2 (one_past CC.out 2 5 (1 + m) (by omega) YES2.out YES5.out) (by decide) V2 (zC.to f2)).mono ?_
            rintro en V1 ⟨v9, rfl, hs, hb⟩
            obtain ⟨vt9, vc9, rfl, ht, hc⟩ := hs [] (fun _ h => by cases h)
            have o9t := ht.one
            have o9c := hc.one
            have I9 := Lib.hid (info_co (vt := vt9) (vc := vc9) (c := cC) KC.out.pre KC.out.bank)
            have L9 : Hid ((coC vt9 vc9 cC).length = 43) := Lib.hid (coC_len (c := cC) KC.out.pre KC.out.bank)
            clear hs ht hc
            refine hK.out _ _ (hb.mono f2.size) ?_
            clear hK K
            try simp only [Act.put, List.setIfInBounds_toArray, List.set_cons_zero, List.set_cons_succ]
            replace bG := bG.to hb
            replace f2 := f2.trans (hb.mono f2.size)
            clear hb
            first | (refine wpP_quiet (v := ?_) rfl (by rfl) ?_ ?_; rotate_left; (· (intro w' hw'; go_simp; try with_reducible rfl)); simp only [Act.put, List.setIfInBounds_toArray, List.set_cons_zero, List.set_cons_succ]) | (refine wpP_skip rfl (by rfl) ?_; simp only [Act.put, List.setIfInBounds_toArray, List.set_cons_zero, List.set_cons_succ])
            first | (refine wpP_quiet (v := ?_) rfl (by rfl) ?_ ?_; rotate_left; (· (intro w' hw'; go_simp; try with_reducible rfl)); simp only [Act.put, List.setIfInBounds_toArray, List.set_cons_zero, List.set_cons_succ]) | (refine wpP_skip rfl (by rfl) ?_; simp only [Act.put, List.setIfInBounds_toArray, List.set_cons_zero, List.set_cons_succ])
            first | (refine wpP_quiet (v := ?_) rfl (by rfl) ?_ ?_; rotate_left; (· (intro w' hw'; go_simp; try with_reducible rfl)); simp only [Act.put, List.setIfInBounds_toArray, List.set_cons_zero, List.set_cons_succ]) | (refine wpP_skip rfl (by rfl) ?_; simp only [Act.put, List.setIfInBounds_toArray, List.set_cons_zero, List.set_cons_succ])
            refine wpP_one ?_
            refine wpP_loud rfl (by rfl) ?_
            intro K hK
            refine wp_store_fld _ _ _ rfl G 0 _ _ (coC vt9 vc9 cC) rfl _ rfl rfl bG (by rw [L9.out]; exact Nat.le_refl _) I9.out (coC_one o9t o9c) ?_
            intro V3 bG3 bu3
            refine hK.out _ _ (below_but bu3 hVG f2.size) ?_
            clear hK K
            try simp only [Act.put, List.setIfInBounds_toArray, List.set_cons_zero, List.set_cons_succ]
            first | (refine wpP_quiet (v := ?_) rfl (by rfl) ?_ ?_; rotate_left; (· (intro w' hw'; go_simp; try with_reducible rfl)); simp only [Act.put, List.setIfInBounds_toArray, List.set_cons_zero, List.set_cons_succ]) | (refine wpP_skip rfl (by rfl) ?_; simp only [Act.put, List.setIfInBounds_toArray, List.set_cons_zero, List.set_cons_succ])
            refine wpP_done ?_
            have f3 := f2.trans (below_but bu3 hVG f2.size)
            have dX := bX.to f3
            have dY := bY.to f3
            have yX := zX.to f3
            have yY := zY.to f3
            have ff := fg.trans (f3.mono fg.size)
            clear f3 f2 bu3 bG3 bG hVG hG
            go_wp2_with (first
              | (refine wpl_load_fld (by rfl) _ _ rfl wy4.heap.size 0 rfl (coC vt4 vc4 cM) _ dX.range Try.underlying30 rfl I4.out ?_)
              | (refine wpl_load_fld (by rfl) _ _ rfl wy5.heap.size 0 rfl (coC vt5 vc5 cM) _ dY.range Try.underlying30 rfl I5.out ?_))
            refine (sameC_any _ _ cM KM.out V3 yX yY).mono ?_
            rintro e wq ⟨rfl, hb⟩
            replace ff := ff.trans (hb.mono ff.size)
            go_wp2_with fail
            go_ret
            exact ⟨rfl, ff⟩
        · refine wpP_loud rfl (by rfl) ?_
          intro K hK
          go_simp
          refine hK.out _ _ ((Below.refl _ _).alloc (Nat.le_refl _) _) ?_
          clear hK K
          try simp only [Act.put, List.setIfInBounds_toArray, List.set_cons_zero, List.set_cons_succ]
          have bG : Blk (U0.alloc (.cells #[.int .i64 0, .int .u8 0, .int .u8 0, .int .u8 0, .int .u8 0, .int .u8 0, .int .u8 0, .int .u8 0, .int .u8 0, .int .u8 0, .int .u8 0, .int .u8 0, .int .u8 0, .int .u8 0, .int .u8 0, .int .u8 0, .int .u8 0, .int .u8 0, .int .u8 0, .int .u8 0, .int .u8 0, .int .u8 0, .int .u8 0, .int .u8 0, .int .u8 0, .int .u8 0, .int .u8 0, .int .u8 0, .int .u8 0, .int .u8 0, .int .u8 0, .int .u8 0, .int .u8 0, .slice none 0 0, .int .i64 0, .int .i64 0, .int .i64 0, .int .i64 0, .int .i64 0, .int .i64 0, .int .i64 0, .int .i64 0, .slice none 0 0] 30)) U0.heap.size 30 zeroCC := Blk.new U0 #[.int .i64 0, .int .u8 0, .int .u8 0, .int .u8 0, .int .u8 0, .int .u8 0, .int .u8 0, .int .u8 0, .int .u8 0, .int .u8 0, .int .u8 0, .int .u8 0, .int .u8 0, .int .u8 0, .int .u8 0, .int .u8 0, .int .u8 0, .int .u8 0, .int .u8 0, .int .u8 0, .int .u8 0, .int .u8 0, .int .u8 0, .int .u8 0, .int .u8 0, .int .u8 0, .int .u8 0, .int .u8 0, .int .u8 0, .int .u8 0, .int .u8 0, .int .u8 0, .int .u8 0, .slice none 0 0, .int .i64 0, .int .i64 0, .int .i64 0, .int .i64 0, .int .i64 0, .int .i64 0, .int .i64 0, .int .i64 0, .slice none 0 0] 30
          have f2 : Below U0.heap.size U0 (U0.alloc (.cells #[.int .i64 0, .int .u8 0, .int .u8 0, .int .u8 0, .int .u8 0, .int .u8 0, .int .u8 0, .int .u8 0, .int .u8 0, .int .u8 0, .int .u8 0, .int .u8 0, .int .u8 0, .int .u8 0, .int .u8 0, .int .u8 0, .int .u8 0, .int .u8 0, .int .u8 0, .int .u8 0, .int .u8 0, .int .u8 0, .int .u8 0, .int .u8 0, .int .u8 0, .int .u8 0, .int .u8 0, .int .u8 0, .int .u8 0, .int .u8 0, .int .u8 0, .int .u8 0, .int .u8 0, .slice none 0 0, .int .i64 0, .int .i64 0, .int .i64 0, .int .i64 0, .int .i64 0, .int .i64 0, .int .i64 0, .int .i64 0, .slice none 0 0] 30)) := (Below.refl _ _).alloc (Nat.le_refl _) _
          generalize U0.alloc (.cells #[.int .i64 0, .int .u8 0, .int .u8 0, .int .u8 0, .int .u8 0, .int .u8 0, .int .u8 0, .int .u8 0, .int .u8 0, .int .u8 0, .int .u8 0, .int .u8 0, .int .u8 0, .int .u8 0, .int .u8 0, .int .u8 0, .int .u8 0, .int .u8 0, .int .u8 0, .int .u8 0, .int .u8 0, .int .u8 0, .int .u8 0, .int .u8 0, .int .u8 0, .int .u8 0, .int .u8 0, .int .u8 0, .int .u8 0, .int .u8 0, .int .u8 0, .int .u8 0, .int .u8 0, .slice none 0 0, .int .i64 0, .int .i64 0, .int .i64 0, .int .i64 0, .int .i64 0, .int .i64 0, .int .i64 0, .int .i64 0, .slice none 0 0] 30) = V2 at *
          obtain ⟨G, hG⟩ : ∃ G, U0.heap.size = G := ⟨_, rfl⟩
          rw [show Blk V2 U0.heap.size 30 zeroCC = Blk V2 G 30 zeroCC from by rw [hG]] at bG
          have hVG : U0.heap.size ≤ G := by omega
          refine wpP_one ?_
          refine wpP_loud rfl (by rfl) ?_
          intro K hK
          go_simp
          refine (within_capstanlaw17 wh 9 V2 (by omega) (by omega) w_lo w_hi).mono ?_
          rintro e w9 ⟨rfl, rfl⟩
          rw [HM.out]
          refine hK.out _ _ (Below.refl _ _) ?_
          clear hK K
          try simp only [Act.put, List.setIfInBounds_toArray, List.set_cons_zero, List.set_cons_succ]
          first | (refine wpP_quiet (v := ?_) rfl (by rfl) ?_ ?_; rotate_left; (· (intro w' hw'; go_simp; try with_reducible rfl)); simp only [Act.put, List.setIfInBounds_toArray, List.set_cons_zero, List.set_cons_succ]) | (refine wpP_skip rfl (by rfl) ?_; simp only [Act.put, List.setIfInBounds_toArray, List.set_cons_zero, List.set_cons_succ])
          refine wpP_one ?_
          refine wpP_loud rfl (by rfl) ?_
          intro K hK
          go_simp
          refine (middle_err _ cC KC.out 2 (1 + m) 5 (one_ 8) rfl 2 (one_past CC.out 2 5 (1 + m) (by omega) YES2.out YES5.out) (by decide) V2 (zC.to f2)).mono ?_
          rintro en V1 ⟨v9, rfl, hs, hb⟩
          obtain ⟨vt9, vc9, rfl, ht, hc⟩ := hs [] (fun _ h => by cases h)
          have o9t := ht.one
          have o9c := hc.one
          have I9 := Lib.hid (info_co (vt := vt9) (vc := vc9) (c := cC) KC.out.pre KC.out.bank)
          have L9 : Hid ((coC vt9 vc9 cC).length = 43) := Lib.hid (coC_len (c := cC) KC.out.pre KC.out.bank)
          clear hs ht hc
          refine hK.out _ _ (hb.mono f2.size) ?_
          clear hK K
          try simp only [Act.put, List.setIfInBounds_toArray, List.set_cons_zero, List.set_cons_succ]
          replace bG := bG.to hb
          replace f2 := f2.trans (hb.mono f2.size)
          clear hb
          first | (refine wpP_quiet (v := ?_) rfl (by rfl) ?_ ?_; rotate_left; (· (intro w' hw'; go_simp; try with_reducible rfl)); simp only [Act.put, List.setIfInBounds_toArray, List.set_cons_zero, List.set_cons_succ]) | (refine wpP_skip rfl (by rfl) ?_; simp only [Act.put, List.setIfInBounds_toArray, List.set_cons_zero, List.set_cons_succ])
          first | (refine wpP_quiet (v := ?_) rfl (by rfl) ?_ ?_; rotate_left; (· (intro w' hw'; go_simp; try with_reducible rfl)); simp only [Act.put, List.setIfInBounds_toArray, List.set_cons_zero, List.set_cons_succ]) | (refine wpP_skip rfl (by rfl) ?_; simp only [Act.put, List.setIfInBounds_toArray, List.set_cons_zero, List.set_cons_succ])
          first | (refine wpP_quiet (v := ?_) rfl (by rfl) ?_ ?_; rotate_left; (· (intro w' hw'; go_simp; try with_reducible rfl)); simp only [Act.put, List.setIfInBounds_toArray, List.set_cons_zero, List.set_cons_succ]) | (refine wpP_skip rfl (by rfl) ?_; simp only [Act.put, List.setIfInBounds_toArray, List.set_cons_zero, List.set_cons_succ])
          refine wpP_one ?_
          refine wpP_loud rfl (by rfl) ?_
          intro K hK
          refine wp_store_fld _ _ _ rfl G 0 _ _ (coC vt9 vc9 cC) rfl _ rfl rfl bG (by rw [L9.out]; exact Nat.le_refl _) I9.out (coC_one o9t o9c) ?_
          intro V3 bG3 bu3
          refine hK.out _ _ (below_but bu3 hVG f2.size) ?_
          clear hK K
          try simp only [Act.put, List.setIfInBounds_toArray, List.set_cons_zero, List.set_cons_succ]
          first | (refine wpP_quiet (v := ?_) rfl (by rfl) ?_ ?_; rotate_left; (· (intro w' hw'; go_simp; try with_reducible rfl)); simp only [Act.put, List.setIfInBounds_toArray, List.set_cons_zero, List.set_cons_succ]) | (refine wpP_skip rfl (by rfl) ?_; simp only [Act.put, List.setIfInBounds_toArray, List.set_cons_zero, List.set_cons_succ])
          refine wpP_done ?_
          have f3 := f2.trans (below_but bu3 hVG f2.size)
          have dX := bX.to f3
          have dY := bY.to f3
          have yX := zX.to f3
          have yY := zY.to f3
          have ff := fg.trans (f3.mono fg.size)
          clear f3 f2 bu3 bG3 bG hVG hG
          go_wp2_with (first
            | (refine wpl_load_fld (by rfl) _ _ rfl wy4.heap.size 0 rfl (coC vt4 vc4 cM) _ dX.range Try.underlying30 rfl I4.out ?_)
            | (refine wpl_load_fld (by rfl) _ _ rfl wy5.heap.size 0 rfl (coC vt5 vc5 cM) _ dY.range Try.underlying30 rfl I5.out ?_))
          refine (sameC_any _ _ cM KM.out V3 yX yY).mono ?_
          rintro e wq ⟨rfl, hb⟩
          replace ff := ff.trans (hb.mono ff.size)
          go_wp2_with fail
          go_ret
          exact ⟨rfl, ff⟩
      · by_cases hr5 : r = 5
        · subst hr5
          clear hr7
          go_wp2_with (first
            | (refine wpl_load_fld (by rfl) _ _ rfl C 0 rfl (coC vt2 vc2 cC) _ dC.range Try.underlying30 rfl I2.out ?_)
            | (refine wpl_build (by rfl) _ _ rfl _ (by exact builtC7) ?_))
          refine (middle_ok _ cC KC.out 2 5 (one_ 7) rfl mvX CC.out 0 mvSu rfl (mv_hne _) (by decide) (mv_hsb _) BC.out (by decide) (by decide) (by rw [OC.out, if_neg (by intro h; rcases h with h | h; exact h YES2.out; exact h YES5.out), if_neg (by decide), if_pos rfl]; rfl) w4 yC).mono ?_
          rw [R1.out]
          rintro en wy3 ⟨v3, rfl, hs, hb⟩
          obtain ⟨vt3, vc3, rfl, ht, hc⟩ := hs [] (fun _ h => by cases h)
          have o3t := ht.one
          have o3c := hc.one
          have I3 := Lib.hid (info_co (vt := vt3) (vc := vc3) (c := cM) KM.out.pre KM.out.bank)
          have L3 : Hid ((coC vt3 vc3 cM).length = 43) := Lib.hid (coC_len (c := cM) KM.out.pre KM.out.bank)
          have x3 : CoX [] wy3 (.agg (coC vt3 vc3 cM).toArray) cM := ⟨vt3, vc3, rfl, ht, hc⟩
          clear hs ht hc
          replace dC := dC.to hb
          replace yC := yC.to hb
          replace ff := ff.trans (hb.mono ff.size)
          clear hb
          go_wp2_with (first
            | (refine wpl_store_new rfl _ _ _ rfl 30 _ (coC vt3 vc3 cM) rfl rfl (by rw [L3.out]; rfl) I3.out (coC_one o3t o3c) ?_
               intro wz3 dD hz
               simp only [Act.put, List.setIfInBounds_toArray, List.set_cons_zero, List.set_cons_succ]
               replace dC := dC.to hz
               replace yC := yC.to hz
               replace ff := ff.trans (hz.mono ff.size)
               have yD := x3.to hz
               clear hz x3
               clear dD yD)
            | (refine wpl_load_fld (by rfl) _ _ rfl C 0 rfl (coC vt2 vc2 cC) _ dC.range Try.underlying30 rfl I2.out ?_)
            | (refine wpl_build (by rfl) _ _ rfl _ (by exact builtC7) ?_))
          refine (middle_ok _ cC KC.out 2 5 (one_ 7) rfl mvX CC.out 0 mvSu rfl (mv_hne _) (by decide) (mv_hsb _) BC.out (by decide) (by decide) (by rw [OC.out, if_neg (by intro h; rcases h with h | h; exact h YES2.out; exact h YES5.out), if_neg (by decide), if_pos rfl]; rfl) wz3 yC).mono ?_
          rw [R1.out]
          rintro en wy4 ⟨v4, rfl, hs, hb⟩
          obtain ⟨vt4, vc4, rfl, ht, hc⟩ := hs [] (fun _ h => by cases h)
          have o4t := ht.one
          have o4c := hc.one
          have I4 := Lib.hid (info_co (vt := vt4) (vc := vc4) (c := cM) KM.out.pre KM.out.bank)
          have L4 : Hid ((coC vt4 vc4 cM).length = 43) := Lib.hid (coC_len (c := cM) KM.out.pre KM.out.bank)
          have x4 : CoX [] wy4 (.agg (coC vt4 vc4 cM).toArray) cM := ⟨vt4, vc4, rfl, ht, hc⟩
          clear hs ht hc
          replace dC := dC.to hb
          replace yC := yC.to hb
          replace ff := ff.trans (hb.mono ff.size)
          clear hb
          go_wp2_with (first
            | (refine wpl_store_new rfl _ _ _ rfl 30 _ (coC vt4 vc4 cM) rfl rfl (by rw [L4.out]; rfl) I4.out (coC_one o4t o4c) ?_
               intro wz4 dX hz
               simp only [Act.put, List.setIfInBounds_toArray, List.set_cons_zero, List.set_cons_succ]
               replace dC := dC.to hz
               replace yC := yC.to hz
               replace ff := ff.trans (hz.mono ff.size)
               have yX := x4.to hz
               clear hz x4)
            | (refine wpl_load_fld (by rfl) _ _ rfl wy4.heap.size 0 rfl (coC vt4 vc4 cM) _ dX.range Try.underlying30 rfl I4.out ?_))
          refine (side_err _ cM KM.out 2 0 true (YES2.out) 2 (by rw [PM.out, if_neg (by omega)]) (by decide) wz4 yX).mono ?_
          rintro en wy5 ⟨v5, rfl, hs, hb⟩
          obtain ⟨vt5, vc5, rfl, ht, hc⟩ := hs [] (fun _ h => by cases h)
          have o5t := ht.one
          have o5c := hc.one
          have I5 := Lib.hid (info_co (vt := vt5) (vc := vc5) (c := cM) KM.out.pre KM.out.bank)
          have L5 : Hid ((coC vt5 vc5 cM).length = 43) := Lib.hid (coC_len (c := cM) KM.out.pre KM.out.bank)
          have x5 : CoX [] wy5 (.agg (coC vt5 vc5 cM).toArray) cM := ⟨vt5, vc5, rfl, ht, hc⟩
          clear hs ht hc
          replace dC := dC.to hb
          replace yC := yC.to hb
          replace dX := dX.to hb
          replace yX := yX.to hb
          replace ff := ff.trans (hb.mono ff.size)
          clear hb
          go_wp2_with (first
            | (refine wpl_store_new rfl _ _ _ rfl 30 _ (coC vt5 vc5 cM) rfl rfl (by rw [L5.out]; rfl) I5.out (coC_one o5t o5c) ?_
               intro wz5 dY hz
               simp only [Act.put, List.setIfInBounds_toArray, List.set_cons_zero, List.set_cons_succ]
               replace dC := dC.to hz
               replace yC := yC.to hz
               replace dX := dX.to hz
               replace yX := yX.to hz
               replace ff := ff.trans (hz.mono ff.size)
               have yY := x5.to hz
               clear hz x5)
            | (refine wpl_load_fld (by rfl) _ _ rfl wy4.heap.size 0 rfl (coC vt4 vc4 cM) _ dX.range Try.underlying30 rfl I4.out ?_)
            | (refine wpl_build (by rfl) _ _ rfl _ (by exact builtC8) ?_))
          refine (middle_ok _ cM KM.out 2 5 (one_ 8) rfl mvX2 CM.out 0 mvSu2 rfl (mv_hne _) (by decide) (mv_hsb _) BM.out (by decide) (by decide) (by rw [OM.out, if_neg (by intro h; rcases h with h | h; exact h YES2.out; exact h YES5.out), if_neg (by decide), if_pos rfl]; rfl) wz5 yX).mono ?_
          rw [R2.out]
          rintro en wy6 ⟨v6, rfl, hs, hb⟩
          obtain ⟨vt6, vc6, rfl, ht, hc⟩ := hs [] (fun _ h => by cases h)
          have o6t := ht.one
          have o6c := hc.one
          have I6 := Lib.hid (info_co (vt := vt6) (vc := vc6) (c := cM) KM.out.pre KM.out.bank)
          have L6 : Hid ((coC vt6 vc6 cM).length = 43) := Lib.hid (coC_len (c := cM) KM.out.pre KM.out.bank)
          have x6 : CoX [] wy6 (.agg (coC vt6 vc6 cM).toArray) cM := ⟨vt6, vc6, rfl, ht, hc⟩
          clear hs ht hc
          replace dC := dC.to hb
          replace yC := yC.to hb
          replace dX := dX.to hb
          replace yX := yX.to hb
          replace dY := dY.to hb
          replace yY := yY.to hb
          replace ff := ff.trans (hb.mono ff.size)
          clear hb
          go_wp2_with (first
            | (refine wpl_store_new rfl _ _ _ rfl 30 _ (coC vt6 vc6 cM) rfl rfl (by rw [L6.out]; rfl) I6.out (coC_one o6t o6c) ?_
               intro wz6 dG hz
               simp only [Act.put, List.setIfInBounds_toArray, List.set_cons_zero, List.set_cons_succ]
               replace dC := dC.to hz
               replace yC := yC.to hz
               replace dX := dX.to hz
               replace yX := yX.to hz
               replace dY := dY.to hz
               replace yY := yY.to hz
               replace ff := ff.trans (hz.mono ff.size)
               have yG := x6.to hz
               clear hz x6
               clear dG yG)
            | (refine wpl_load_fld (by rfl) _ _ rfl C 0 rfl (coC vt2 vc2 cC) _ dC.range Try.underlying30 rfl I2.out ?_))
          refine (side_ok _ cC KC.out 5 true YES5.out mvX CC.out 0 mvSu rfl (mv_hne _) (by decide) (mv_hsb _) BC.out (by decide) (by decide) (by decide) (by decide) (by decide) (by rw [PC.out, if_pos rfl]; rfl) wz6 yC).mono ?_
          rw [R3.out]
          rintro en wy7 ⟨v7, rfl, hs, hb⟩
          obtain ⟨vt7, vc7, rfl, ht, hc⟩ := hs [] (fun _ h => by cases h)
          have o7t := ht.one
          have o7c := hc.one
          have I7 := Lib.hid (info_co (vt := vt7) (vc := vc7) (c := cC) KC.out.pre KC.out.bank)
          have L7 : Hid ((coC vt7 vc7 cC).length = 43) := Lib.hid (coC_len (c := cC) KC.out.pre KC.out.bank)
          have x7 : CoX [] wy7 (.agg (coC vt7 vc7 cC).toArray) cC := ⟨vt7, vc7, rfl, ht, hc⟩
          clear hs ht hc
          replace dC := dC.to hb
          replace yC := yC.to hb
          replace dX := dX.to hb
          replace yX := yX.to hb
          replace dY := dY.to hb
          replace yY := yY.to hb
          replace ff := ff.trans (hb.mono ff.size)
          clear hb
          go_wp2_with (first
            | (refine wpl_store_new rfl _ _ _ rfl 30 _ (coC vt7 vc7 cC) rfl rfl (by rw [L7.out]; rfl) I7.out (coC_one o7t o7c) ?_
               intro wz7 dH hz
               simp only [Act.put, List.setIfInBounds_toArray, List.set_cons_zero, List.set_cons_succ]
               replace dC := dC.to hz
               replace yC := yC.to hz
               replace dX := dX.to hz
               replace yX := yX.to hz
               replace dY := dY.to hz
               replace yY := yY.to hz
               replace ff := ff.trans (hz.mono ff.size)
               have yH := x7.to hz
               clear hz x7
               clear dH yH))
          have w1m : IntKind.i64.wrap (1 + m) = 1 + m := IntWalk.i64_in _ (by omega)
          refine wp_region_P (.take 0 (.take 1 (.take 4 (.two 2 (.take 3 (.two 5 (.take 6 (.take 7 (.take 8 (.one 9 (.one 10 (.take 11 .done)))))) 9 (.one 5 (.take 6 (.take 7 (.take 8 (.one 10 (.take 11 .done)))))))) 9 (.one 2 (.take 3 (.one 5 (.take 6 (.take 7 (.take 8 (.one 10 (.take 11 .done)))))))))))) (Below wz7.heap.size) (by kernel_rfl) (by kernel_rfl) (by kernel_rfl) (by decide +kernel) (Below.refl _) (fun _ _ _ => Below.trans) (by intro d v c a w h; first | (cases d <;> exact h) | exact absurd h.1 (by simp)) ?_
          have bC : Blk wz7.drew C 30 (coC vt2 vc2 cC) := dC
          have bX : Blk wz7.drew wy4.heap.size 30 (coC vt4 vc4 cM) := dX
          have bY : Blk wz7.drew wy5.heap.size 30 (coC vt5 vc5 cM) := dY
          have zC := yC.drew
          have zX := yX.drew
          have zY := yY.drew
          have fg := ff.drew
          clear dC yC dX yX dY yY ff
          have hsz : wz7.heap.size = wz7.drew.heap.size := rfl
          rw [hsz]
          clear hsz
          generalize wz7.drew = U0 at *
          refine wpP_load rfl (by rfl) _ _ rfl C 0 rfl (coC vt2 vc2 cC) _ (fun w' hw' => (bC.below hw' bC.lt).range) Try.underlying30 rfl I2.out ?_; simp only [Act.put, List.setIfInBounds_toArray, List.set_cons_zero, List.set_cons_succ]
          first | (refine wpP_quiet (v := ?_) rfl (by rfl) ?_ ?_; rotate_left; (· (intro w' hw'; go_simp; try with_reducible rfl)); simp only [Act.put, List.setIfInBounds_toArray, List.set_cons_zero, List.set_cons_succ]) | (refine wpP_skip rfl (by rfl) ?_; simp only [Act.put, List.setIfInBounds_toArray, List.set_cons_zero, List.set_cons_succ])
          refine wpP_build rfl (by rfl) _ _ rfl _ (by exact builtC8) ?_; simp only [Act.put, List.setIfInBounds_toArray, List.set_cons_zero, List.set_cons_succ]
          refine wpP_two ?_ ?_
          · refine wpP_loud rfl (by rfl) ?_
            intro K hK
            go_simp
            refine (within_capstanlaw17 wh 9 U0 (by omega) (by omega) w_lo w_hi).mono ?_
            rintro e w9 ⟨rfl, rfl⟩
            rw [HM.out]
            refine hK.out _ _ (Below.refl _ _) ?_
            clear hK K
            try simp only [Act.put, List.setIfInBounds_toArray, List.set_cons_zero, List.set_cons_succ]
            first | (refine wpP_quiet (v := ?_) rfl (by rfl) ?_ ?_; rotate_left; (· (intro w' hw'; go_simp; try with_reducible rfl)); simp only [Act.put, List.setIfInBounds_toArray, List.set_cons_zero, List.set_cons_succ]) | (refine wpP_skip rfl (by rfl) ?_; simp only [Act.put, List.setIfInBounds_toArray, List.set_cons_zero, List.set_cons_succ])
            refine wpP_two ?_ ?_
            · refine wpP_loud rfl (by rfl) ?_
              intro K hK
              go_simp
              refine (middle_err _ cC KC.out 2 (1 + m) 5 (one_ 8) rfl 2 (one_past CC.out 2 5 (1 + m) (by omega) YES2.out YES5.out) (by decide) U0 zC).mono ?_
              rintro en V1 ⟨v9, rfl, hs, hb⟩
              obtain ⟨vt9, vc9, rfl, ht, hc⟩ := hs [] (fun _ h => by cases h)
              have o9t := ht.one
              have o9c := hc.one
              have I9 := Lib.hid (info_co (vt := vt9) (vc := vc9) (c := cC) KC.out.pre KC.out.bank)
              have L9 : Hid ((coC vt9 vc9 cC).length = 43) := Lib.hid (coC_len (c := cC) KC.out.pre KC.out.bank)
              clear hs ht hc
              refine hK.out _ _ hb ?_
              clear hK K
              try simp only [Act.put, List.setIfInBounds_toArray, List.set_cons_zero, List.set_cons_succ]
              have f2 : Below U0.heap.size U0 V1 := hb
              clear hb
              first | (refine wpP_quiet (v := ?_) rfl (by rfl) ?_ ?_; rotate_left; (· (intro w' hw'; go_simp; try with_reducible rfl)); simp only [Act.put, List.setIfInBounds_toArray, List.set_cons_zero, List.set_cons_succ]) | (refine wpP_skip rfl (by rfl) ?_; simp only [Act.put, List.setIfInBounds_toArray, List.set_cons_zero, List.set_cons_succ])
              first | (refine wpP_quiet (v := ?_) rfl (by rfl) ?_ ?_; rotate_left; (· (intro w' hw'; go_simp; try with_reducible rfl)); simp only [Act.put, List.setIfInBounds_toArray, List.set_cons_zero, List.set_cons_succ]) | (refine wpP_skip rfl (by rfl) ?_; simp only [Act.put, List.setIfInBounds_toArray, List.set_cons_zero, List.set_cons_succ])
              first | (refine wpP_quiet (v := ?_) rfl (by rfl) ?_ ?_; rotate_left; (· (intro w' hw'; go_simp; try with_reducible rfl)); simp only [Act.put, List.setIfInBounds_toArray, List.set_cons_zero, List.set_cons_succ]) | (refine wpP_skip rfl (by rfl) ?_; simp only [Act.put, List.setIfInBounds_toArray, List.set_cons_zero, List.set_cons_succ])
              refine wpP_one ?_
              refine wpP_loud rfl (by rfl) ?_
              intro K hK
              go_simp
              refine hK.out _ _ ((Below.refl _ _).alloc (by exact f2.size) _) ?_
              clear hK K
              try simp only [Act.put, List.setIfInBounds_toArray, List.set_cons_zero, List.set_cons_succ]
              have bG : Blk (V1.alloc (.cells #[.int .i64 0, .int .u8 0, .int .u8 0, .int .u8 0, .int .u8 0, .int .u8 0, .int .u8 0, .int .u8 0, .int .u8 0, .int .u8 0, .int .u8 0, .int .u8 0, .int .u8 0, .int .u8 0, .int .u8 0, .int .u8 0, .int .u8 0, .int .u8 0, .int .u8 0, .int .u8 0, .int .u8 0, .int .u8 0, .int .u8 0, .int .u8 0, .int .u8 0, .int .u8 0, .int .u8 0, .int .u8 0, .int .u8 0, .int .u8 0, .int .u8 0, .int .u8 0, .int .u8 0, .slice none 0 0, .int .i64 0, .int .i64 0, .int .i64 0, .int .i64 0, .int .i64 0, .int .i64 0, .int .i64 0, .int .i64 0, .slice none 0 0] 30)) V1.heap.size 30 zeroCC := Blk.new V1 #[.int .i64 0, .int .u8 0, .int .u8 0, .int .u8 0, .int .u8 0, .int .u8 0, .int .u8 0, .int .u8 0, .int .u8 0, .int .u8 0, .int .u8 0, .int .u8 0, .int .u8 0, .int .u8 0, .int .u8 0, .int .u8 0, .int .u8 0, .int .u8 0, .int .u8 0, .int .u8 0, .int .u8 0, .int .u8 0, .int .u8 0, .int .u8 0, .int .u8 0, .int .u8 0, .int .u8 0, .int .u8 0, .int .u8 0, .int .u8 0, .int .u8 0, .int .u8 0, .int .u8 0, .slice none 0 0, .int .i64 0, .int .i64 0, .int .i64 0, .int .i64 0, .int .i64 0, .int .i64 0, .int .i64 0, .int .i64 0, .slice none 0 0] 30
              have hVG : U0.heap.size ≤ V1.heap.size := f2.size
              replace f2 : Below U0.heap.size U0 (V1.alloc (.cells #[.int .i64 0, .int .u8 0, .int .u8 0, .int .u8 0, .int .u8 0, .int .u8 0, .int .u8 0, .int .u8 0, .int .u8 0, .int .u8 0, .int .u8 0, .int .u8 0, .int .u8 0, .int .u8 0, .int .u8 0, .int .u8 0, .int .u8 0, .int .u8 0, .int .u8 0, .int .u8 0, .int .u8 0, .int .u8 0, .int .u8 0, .int .u8 0, .int .u8 0, .int .u8 0, .int .u8 0, .int .u8 0, .int .u8 0, .int .u8 0, .int .u8 0, .int .u8 0, .int .u8 0, .slice none 0 0, .int .i64 0, .int .i64 0, .int .i64 0, .int .i64 0, .int .i64 0, .int .i64 0, .int .i64 0, .int .i64 0, .slice none 0 0] 30)) := f2.alloc (by exact f2.size) _
              generalize V1.alloc (.cells #[.int .i64 0, .int .u8 0, .int .u8 0, .int .u8 0, .int .u8 0, .int .u8 0, .int .u8 0, .int .u8 0, .int .u8 0, .int .u8 0, .int .u8 0, .int .u8 0, .int .u8 0, .int .u8 0, .int .u8 0, .int .u8 0, .int .u8 0, .int .u8 0, .int .u8 0, .int .u8 0, .int .u8 0, .int .u8 0, .int .u8 0, .int .u8 0, .int .u8 0, .int .u8 0, .int .u8 0, .int .u8 0, .int .u8 0, .int .u8 0, .int .u8 0, .int .u8 0, .int .u8 0, .slice none 0 0, .int .i64 0, .int .i64 0, .int .i64 0, .int .i64 0, .int .i64 0, .int .i64 0, .int .i64 0, .int .i64 0, .slice none 0 0] 30) = V2 at *
              generalize hG : V1.heap.size = G at *
              refine wpP_one ?_
              refine wpP_loud rfl (by rfl) ?_
              intro K hK
              refine wp_store_fld _ _ _ rfl G 0 _ _ (coC vt9 vc9 cC) rfl _ rfl rfl bG (by rw [L9.out]; exact Nat.le_refl _) I9.out (coC_one o9t o9c) ?_
              intro V3 bG3 bu3
              refine hK.out _ _ (below_but bu3 hVG f2.size) ?_
              clear hK K
              try simp only [Act.put, List.setIfInBounds_toArray, List.set_cons_zero, List.set_cons_succ]
              first | (refine wpP_quiet (v := ?_) rfl (by rfl) ?_ ?_; rotate_left; (· (intro w' hw'; go_simp; try with_reducible rfl)); simp only [Act.put, List.setIfInBounds_toArray, List.set_cons_zero, List.set_cons_succ]) | (refine wpP_skip rfl (by rfl) ?_; simp only [Act.put, List.setIfInBounds_toArray, List.set_cons_zero, List.set_cons_succ])
              refine wpP_done ?_
              have f3 := f2.trans (below_but bu3 hVG f2.size)
              have dX := bX.to f3
              have dY := bY.to f3
              have yX := zX.to f3
              have yY := zY.to f3
              have ff := fg.trans (f3.mono fg.size)
              clear f3 f2 bu3 bG3 bG hVG hG
              go_wp2_with (first
                | (refine wpl_load_fld (by rfl) _ _ rfl wy4.heap.size 0 rfl (coC vt4 vc4 cM) _ dX.range Try.underlying30 rfl I4.out ?_)
                | (refine wpl_load_fld (by rfl) _ _ rfl wy5.heap.size 0 rfl (coC vt5 vc5 cM) _ dY.range Try.underlying30 rfl I5.out ?_))
              refine (sameC_any _ _ cM KM.out V3 yX yY).mono ?_
              rintro e wq ⟨rfl, hb⟩
              replace ff := ff.trans (hb.mono ff.size)
              go_wp2_with fail
              go_ret
              exact ⟨rfl, ff⟩
            · refine wpP_loud rfl (by rfl) ?_
              intro K hK
              go_simp
              refine hK.out _ _ ((Below.refl _ _).alloc (Nat.le_refl _) _) ?_
              clear hK K
              try simp only [Act.put, List.setIfInBounds_toArray, List.set_cons_zero, List.set_cons_succ]
              have bG : Blk (U0.alloc (.cells #[.int .i64 0, .int .u8 0, .int .u8 0, .int .u8 0, .int .u8 0, .int .u8 0, .int .u8 0, .int .u8 0, .int .u8 0, .int .u8 0, .int .u8 0, .int .u8 0, .int .u8 0, .int .u8 0, .int .u8 0, .int .u8 0, .int .u8 0, .int .u8 0, .int .u8 0, .int .u8 0, .int .u8 0, .int .u8 0, .int .u8 0, .int .u8 0, .int .u8 0, .int .u8 0, .int .u8 0, .int .u8 0, .int .u8 0, .int .u8 0, .int .u8 0, .int .u8 0, .int .u8 0, .slice none 0 0, .int .i64 0, .int .i64 0, .int .i64 0, .int .i64 0, .int .i64 0, .int .i64 0, .int .i64 0, .int .i64 0, .slice none 0 0] 30)) U0.heap.size 30 zeroCC := Blk.new U0 #[.int .i64 0, .int .u8 0, .int .u8 0, .int .u8 0, .int .u8 0, .int .u8 0, .int .u8 0, .int .u8 0, .int .u8 0, .int .u8 0, .int .u8 0, .int .u8 0, .int .u8 0, .int .u8 0, .int .u8 0, .int .u8 0, .int .u8 0, .int .u8 0, .int .u8 0, .int .u8 0, .int .u8 0, .int .u8 0, .int .u8 0, .int .u8 0, .int .u8 0, .int .u8 0, .int .u8 0, .int .u8 0, .int .u8 0, .int .u8 0, .int .u8 0, .int .u8 0, .int .u8 0, .slice none 0 0, .int .i64 0, .int .i64 0, .int .i64 0, .int .i64 0, .int .i64 0, .int .i64 0, .int .i64 0, .int .i64 0, .slice none 0 0] 30
              have f2 : Below U0.heap.size U0 (U0.alloc (.cells #[.int .i64 0, .int .u8 0, .int .u8 0, .int .u8 0, .int .u8 0, .int .u8 0, .int .u8 0, .int .u8 0, .int .u8 0, .int .u8 0, .int .u8 0, .int .u8 0, .int .u8 0, .int .u8 0, .int .u8 0, .int .u8 0, .int .u8 0, .int .u8 0, .int .u8 0, .int .u8 0, .int .u8 0, .int .u8 0, .int .u8 0, .int .u8 0, .int .u8 0, .int .u8 0, .int .u8 0, .int .u8 0, .int .u8 0, .int .u8 0, .int .u8 0, .int .u8 0, .int .u8 0, .slice none 0 0, .int .i64 0, .int .i64 0, .int .i64 0, .int .i64 0, .int .i64 0, .int .i64 0, .int .i64 0, .int .i64 0, .slice none 0 0] 30)) := (Below.refl _ _).alloc (Nat.le_refl _) _
              generalize U0.alloc (.cells #[.int .i64 0, .int .u8 0, .int .u8 0, .int .u8 0, .int .u8 0, .int .u8 0, .int .u8 0, .int .u8 0, .int .u8 0, .int .u8 0, .int .u8 0, .int .u8 0, .int .u8 0, .int .u8 0, .int .u8 0, .int .u8 0, .int .u8 0, .int .u8 0, .int .u8 0, .int .u8 0, .int .u8 0, .int .u8 0, .int .u8 0, .int .u8 0, .int .u8 0, .int .u8 0, .int .u8 0, .int .u8 0, .int .u8 0, .int .u8 0, .int .u8 0, .int .u8 0, .int .u8 0, .slice none 0 0, .int .i64 0, .int .i64 0, .int .i64 0, .int .i64 0, .int .i64 0, .int .i64 0, .int .i64 0, .int .i64 0, .slice none 0 0] 30) = V2 at *
              obtain ⟨G, hG⟩ : ∃ G, U0.heap.size = G := ⟨_, rfl⟩
              rw [show Blk V2 U0.heap.size 30 zeroCC = Blk V2 G 30 zeroCC from by rw [hG]] at bG
              have hVG : U0.heap.size ≤ G := by omega
              refine wpP_one ?_
              refine wpP_loud rfl (by rfl) ?_
              intro K hK
              go_simp
              refine (middle_err _ cC KC.out 2 (1 + m) 5 (one_ 8) rfl 2 (one_past CC.out 2 5 (1 + m) (by omega) YES2.out YES5.out) (by decide) V2 (zC.to f2)).mono ?_
              rintro en V1 ⟨v9, rfl, hs, hb⟩
              obtain ⟨vt9, vc9, rfl, ht, hc⟩ := hs [] (fun _ h => by cases h)
              have o9t := ht.one
              have o9c := hc.one
              have I9 := Lib.hid (info_co (vt := vt9) (vc := vc9) (c := cC) KC.out.pre KC.out.bank)
              have L9 : Hid ((coC vt9 vc9 cC).length = 43) := Lib.hid (coC_len (c := cC) KC.out.pre KC.out.bank)
              clear hs ht hc
              refine hK.out _ _ (hb.mono f2.size) ?_
              clear hK K
              try simp only [Act.put, List.setIfInBounds_toArray, List.set_cons_zero, List.set_cons_succ]
              replace bG := bG.to hb
              replace f2 := f2.trans (hb.mono f2.size)
              clear hb
              first | (refine wpP_quiet (v := ?_) rfl (by rfl) ?_ ?_; rotate_left; (· (intro w' hw'; go_simp; try with_reducible rfl)); simp only [Act.put, List.setIfInBounds_toArray, List.set_cons_zero, List.set_cons_succ]) | (refine wpP_skip rfl (by rfl) ?_; simp only [Act.put, List.setIfInBounds_toArray, List.set_cons_zero, List.set_cons_succ])
              first | (refine wpP_quiet (v := ?_) rfl (by rfl) ?_ ?_; rotate_left; (· (intro w' hw'; go_simp; try with_reducible rfl)); simp only [Act.put, List.setIfInBounds_toArray, List.set_cons_zero, List.set_cons_succ]) | (refine wpP_skip rfl (by rfl) ?_; simp only [Act.put, List.setIfInBounds_toArray, List.set_cons_zero, List.set_cons_succ])
              first | (refine wpP_quiet (v := ?_) rfl (by rfl) ?_ ?_; rotate_left; (· (intro w' hw'; go_simp; try with_reducible rfl)); simp only [Act.put, List.setIfInBounds_toArray, List.set_cons_zero, List.set_cons_succ]) | (refine wpP_skip rfl (by rfl) ?_; simp only [Act.put, List.setIfInBounds_toArray, List.set_cons_zero, List.set_cons_succ])
              refine wpP_one ?_
              refine wpP_loud rfl (by rfl) ?_
              intro K hK
              refine wp_store_fld _ _ _ rfl G 0 _ _ (coC vt9 vc9 cC) rfl _ rfl rfl bG (by rw [L9.out]; exact Nat.le_refl _) I9.out (coC_one o9t o9c) ?_
              intro V3 bG3 bu3
              refine hK.out _ _ (below_but bu3 hVG f2.size) ?_
              clear hK K
              try simp only [Act.put, List.setIfInBounds_toArray, List.set_cons_zero, List.set_cons_succ]
              first | (refine wpP_quiet (v := ?_) rfl (by rfl) ?_ ?_; rotate_left; (· (intro w' hw'; go_simp; try with_reducible rfl)); simp only [Act.put, List.setIfInBounds_toArray, List.set_cons_zero, List.set_cons_succ]) | (refine wpP_skip rfl (by rfl) ?_; simp only [Act.put, List.setIfInBounds_toArray, List.set_cons_zero, List.set_cons_succ])
              refine wpP_done ?_
              have f3 := f2.trans (below_but bu3 hVG f2.size)
              have dX := bX.to f3
              have dY := bY.to f3
              have yX := zX.to f3
              have yY := zY.to f3
              have ff := fg.trans (f3.mono fg.size)
              clear f3 f2 bu3 bG3 bG hVG hG
              go_wp2_with (first
                | (refine wpl_load_fld (by rfl) _ _ rfl wy4.heap.size 0 rfl (coC vt4 vc4 cM) _ dX.range Try.underlying30 rfl I4.out ?_)
                | (refine wpl_load_fld (by rfl) _ _ rfl wy5.heap.size 0 rfl (coC vt5 vc5 cM) _ dY.range Try.underlying30 rfl I5.out ?_))
              refine (sameC_any _ _ cM KM.out V3 yX yY).mono ?_
              rintro e wq ⟨rfl, hb⟩
              replace ff := ff.trans (hb.mono ff.size)
              go_wp2_with fail
              go_ret
              exact ⟨rfl, ff⟩
          · refine wpP_loud rfl (by rfl) ?_
            intro K hK
            go_simp
            refine hK.out _ _ ((Below.refl _ _).alloc (Nat.le_refl _) _) ?_
            clear hK K
            try simp only [Act.put, List.setIfInBounds_toArray, List.set_cons_zero, List.set_cons_succ]
            have bG : Blk (U0.alloc (.cells #[.int .i64 0, .int .u8 0, .int .u8 0, .int .u8 0, .int .u8 0, .int .u8 0, .int .u8 0, .int .u8 0, .int .u8 0, .int .u8 0, .int .u8 0, .int .u8 0, .int .u8 0, .int .u8 0, .int .u8 0, .int .u8 0, .int .u8 0, .int .u8 0, .int .u8 0, .int .u8 0, .int .u8 0, .int .u8 0, .int .u8 0, .int .u8 0, .int .u8 0, .int .u8 0, .int .u8 0, .int .u8 0, .int .u8 0, .int .u8 0, .int .u8 0, .int .u8 0, .int .u8 0, .slice none 0 0, .int .i64 0, .int .i64 0, .int .i64 0, .int .i64 0, .int .i64 0, .int .i64 0, .int .i64 0, .int .i64 0, .slice none 0 0] 30)) U0.heap.size 30 zeroCC := Blk.new U0 #[.int .i64 0, .int .u8 0, .int .u8 0, .int .u8 0, .int .u8 0, .int .u8 0, .int .u8 0, .int .u8 0, .int .u8 0, .int .u8 0, .int .u8 0, .int .u8 0, .int .u8 0, .int .u8 0, .int .u8 0, .int .u8 0, .int .u8 0, .int .u8 0, .int .u8 0, .int .u8 0, .int .u8 0, .int .u8 0, .int .u8 0, .int .u8 0, .int .u8 0, .int .u8 0, .int .u8 0, .int .u8 0, .int .u8 0, .int .u8 0, .int .u8 0, .int .u8 0, .int .u8 0, .slice none 0 0, .int .i64 0, .int .i64 0, .int .i64 0, .int .i64 0, .int .i64 0, .int .i64 0, .int .i64 0, .int .i64 0, .slice none 0 0] 30
            have f2 : Below U0.heap.size U0 (U0.alloc (.cells #[.int .i64 0, .int .u8 0, .int .u8 0, .int .u8 0, .int .u8 0, .int .u8 0, .int .u8 0, .int .u8 0, .int .u8 0, .int .u8 0, .int .u8 0, .int .u8 0, .int .u8 0, .int .u8 0, .int .u8 0, .int .u8 0, .int .u8 0, .int .u8 0, .int .u8 0, .int .u8 0, .int .u8 0, .int .u8 0, .int .u8 0, .int .u8 0, .int .u8 0, .int .u8 0, .int .u8 0, .int .u8 0, .int .u8 0, .int .u8 0, .int .u8 0, .int .u8 0, .int .u8 0, .slice none 0 0, .int .i64 0, .int .i64 0, .int .i64 0, .int .i64 0, .int .i64 0, .int .i64 0, .int .i64 0, .int .i64 0, .slice none 0 0] 30)) := (Below.refl _ _).alloc (Nat.le_refl _) _
            generalize U0.alloc (.cells #[.int .i64 0, .int .u8 0, .int .u8 0, .int .u8 0, .int .u8 0, .int .u8 0, .int .u8 0, .int .u8 0, .int .u8 0, .int .u8 0, .int .u8 0, .int .u8 0, .int .u8 0, .int .u8 0, .int .u8 0, .int .u8 0, .int .u8 0, .int .u8 0, .int .u8 0, .int .u8 0, .int .u8 0, .int .u8 0, .int .u8 0, .int .u8 0, .int .u8 0, .int .u8 0, .int .u8 0, .int .u8 0, .int .u8 0, .int .u8 0, .int .u8 0, .int .u8 0, .int .u8 0, .slice none 0 0, .int .i64 0, .int .i64 0, .int .i64 0, .int .i64 0, .int .i64 0, .int .i64 0, .int .i64 0, .int .i64 0, .slice none 0 0] 30) = V2 at *
            obtain ⟨G, hG⟩ : ∃ G, U0.heap.size = G := ⟨_, rfl⟩
            rw [show Blk V2 U0.heap.size 30 zeroCC = Blk V2 G 30 zeroCC from by rw [hG]] at bG
            have hVG : U0.heap.size ≤ G := by omega
            refine wpP_one ?_
            refine wpP_loud rfl (by rfl) ?_
            intro K hK
            go_simp
            refine (within_capstanlaw17 wh 9 V2 (by omega) (by omega) w_lo w_hi).mono ?_
            rintro e w9 ⟨rfl, rfl⟩
            rw [HM.out]
            refine hK.out _ _ (Below.refl _ _) ?_
            clear hK K
            try simp only [Act.put, List.setIfInBounds_toArray, List.set_cons_zero, List.set_cons_succ]
            first | (refine wpP_quiet (v := ?_) rfl (by rfl) ?_ ?_; rotate_left; (· (intro w' hw'; go_simp; try with_reducible rfl)); simp only [Act.put, List.setIfInBounds_toArray, List.set_cons_zero, List.set_cons_succ]) | (refine wpP_skip rfl (by rfl) ?_; simp only [Act.put, List.setIfInBounds_toArray, List.set_cons_zero, List.set_cons_succ])
            refine wpP_one ?_
            refine wpP_loud rfl (by rfl) ?_
            intro K hK
            go_simp
            refine (middle_err _ cC KC.out 2 (1 + m) 5 (one_ 8) rfl 2 (one_past CC.out 2 5 (1 + m) (by omega) YES2.out YES5.out) (by decide) V2 (zC.to f2)).mono ?_
            rintro en V1 ⟨v9, rfl, hs, hb⟩
            obtain ⟨vt9, vc9, rfl, ht, hc⟩ := hs [] (fun _ h => by cases h)
            have o9t := ht.one
            have o9c := hc.one
            have I9 := Lib.hid (info_co (vt := vt9) (vc := vc9) (c := cC) KC.out.pre KC.out.bank)
            have L9 : Hid ((coC vt9 vc9 cC).length = 43) := Lib.hid (coC_len (c := cC) KC.out.pre KC.out.bank)
            clear hs ht hc
            refine hK.out _ _ (hb.mono f2.size) ?_
            clear hK K
            try simp only [Act.put, List.setIfInBounds_toArray, List.set_cons_zero, List.set_cons_succ]
            replace bG := bG.to hb
            replace f2 := f2.trans (hb.mono f2.size)
            clear hb
            first | (refine wpP_quiet (v := ?_) rfl (by rfl) ?_ ?_; rotate_left; (· (intro w' hw'; go_simp; try with_reducible rfl)); simp only [Act.put, List.setIfInBounds_toArray, List.set_cons_zero, List.set_cons_succ]) | (refine wpP_skip rfl (by rfl) ?_; simp only [Act.put, List.setIfInBounds_toArray, List.set_cons_zero, List.set_cons_succ])
            first | (refine wpP_quiet (v := ?_) rfl (by rfl) ?_ ?_; rotate_left; (· (intro w' hw'; go_simp; try with_reducible rfl)); simp only [Act.put, List.setIfInBounds_toArray, List.set_cons_zero, List.set_cons_succ]) | (refine wpP_skip rfl (by rfl) ?_; simp only [Act.put, List.setIfInBounds_toArray, List.set_cons_zero, List.set_cons_succ])
            first | (refine wpP_quiet (v := ?_) rfl (by rfl) ?_ ?_; rotate_left; (· (intro w' hw'; go_simp; try with_reducible rfl)); simp only [Act.put, List.setIfInBounds_toArray, List.set_cons_zero, List.set_cons_succ]) | (refine wpP_skip rfl (by rfl) ?_; simp only [Act.put, List.setIfInBounds_toArray, List.set_cons_zero, List.set_cons_succ])
            refine wpP_one ?_
            refine wpP_loud rfl (by rfl) ?_
            intro K hK
            refine wp_store_fld _ _ _ rfl G 0 _ _ (coC vt9 vc9 cC) rfl _ rfl rfl bG (by rw [L9.out]; exact Nat.le_refl _) I9.out (coC_one o9t o9c) ?_
            intro V3 bG3 bu3
            refine hK.out _ _ (below_but bu3 hVG f2.size) ?_
            clear hK K
            try simp only [Act.put, List.setIfInBounds_toArray, List.set_cons_zero, List.set_cons_succ]
            first | (refine wpP_quiet (v := ?_) rfl (by rfl) ?_ ?_; rotate_left; (· (intro w' hw'; go_simp; try with_reducible rfl)); simp only [Act.put, List.setIfInBounds_toArray, List.set_cons_zero, List.set_cons_succ]) | (refine wpP_skip rfl (by rfl) ?_; simp only [Act.put, List.setIfInBounds_toArray, List.set_cons_zero, List.set_cons_succ])
            refine wpP_done ?_
            have f3 := f2.trans (below_but bu3 hVG f2.size)
            have dX := bX.to f3
            have dY := bY.to f3
            have yX := zX.to f3
            have yY := zY.to f3
            have ff := fg.trans (f3.mono fg.size)
            clear f3 f2 bu3 bG3 bG hVG hG
            go_wp2_with (first
              | (refine wpl_load_fld (by rfl) _ _ rfl wy4.heap.size 0 rfl (coC vt4 vc4 cM) _ dX.range Try.underlying30 rfl I4.out ?_)
              | (refine wpl_load_fld (by rfl) _ _ rfl wy5.heap.size 0 rfl (coC vt5 vc5 cM) _ dY.range Try.underlying30 rfl I5.out ?_))
            refine (sameC_any _ _ cM KM.out V3 yX yY).mono ?_
            rintro e wq ⟨rfl, hb⟩
            replace ff := ff.trans (hb.mono ff.size)
            go_wp2_with fail
            go_ret
            exact ⟨rfl, ff⟩
        · have t2 : ¬ r > 7 := hr7
          have t2d : decide (7 < r) = false := decide_eq_false hr7
          have t6 : (r == 5) = false := by simpa using hr5
          have t6x : (r != 5) = true := by simpa using hr5
          go_wp2_with (first
            | (refine wpl_load_fld (by rfl) _ _ rfl C 0 rfl (coC vt2 vc2 cC) _ dC.range Try.underlying30 rfl I2.out ?_)
            | (refine wpl_build (by rfl) _ _ rfl _ (by exact builtC7) ?_))
          refine (middle_err _ cC KC.out 2 0 r (one_ 7) rfl 2 (by rw [OC.out, if_neg (by intro h; rcases h with h | h; exact h YES2.out; exact h ⟨hr10.1, by omega⟩), if_neg (by decide), if_neg (by omega)]) (by decide) w4 yC).mono ?_
          rintro en wy3 ⟨v3, rfl, hs, hb⟩
          obtain ⟨vt3, vc3, rfl, ht, hc⟩ := hs [] (fun _ h => by cases h)
          have o3t := ht.one
          have o3c := hc.one
          have I3 := Lib.hid (info_co (vt := vt3) (vc := vc3) (c := cC) KC.out.pre KC.out.bank)
          have L3 : Hid ((coC vt3 vc3 cC).length = 43) := Lib.hid (coC_len (c := cC) KC.out.pre KC.out.bank)
          have x3 : CoX [] wy3 (.agg (coC vt3 vc3 cC).toArray) cC := ⟨vt3, vc3, rfl, ht, hc⟩
          clear hs ht hc
          replace dC := dC.to hb
          replace yC := yC.to hb
          replace ff := ff.trans (hb.mono ff.size)
          clear hb
          go_wp2_with (first
            | (refine wpl_store_new rfl _ _ _ rfl 30 _ (coC vt3 vc3 cC) rfl rfl (by rw [L3.out]; rfl) I3.out (coC_one o3t o3c) ?_
               intro wz3 dD hz
               simp only [Act.put, List.setIfInBounds_toArray, List.set_cons_zero, List.set_cons_succ]
               replace dC := dC.to hz
               replace yC := yC.to hz
               replace ff := ff.trans (hz.mono ff.size)
               have yD := x3.to hz
               clear hz x3)
            | (refine wpl_load_fld (by rfl) _ _ rfl C 0 rfl (coC vt2 vc2 cC) _ dC.range Try.underlying30 rfl I2.out ?_)
            | (refine wpl_load_fld (by rfl) _ _ rfl wy3.heap.size 0 rfl (coC vt3 vc3 cC) _ dD.range Try.underlying30 rfl I3.out ?_))
          refine (sameC_any _ _ cC KC.out wz3 yC yD).mono ?_
          rintro e wq ⟨rfl, hb⟩
          clear dD yD
          replace dC := dC.to hb
          replace yC := yC.to hb
          replace ff := ff.trans (hb.mono ff.size)
          clear hb
          go_wp2_with (first
            | (refine wpl_load_fld (by rfl) _ _ rfl C 0 rfl (coC vt2 vc2 cC) _ dC.range Try.underlying30 rfl I2.out ?_)
            | (refine wpl_build (by rfl) _ _ rfl _ (by exact builtC7) ?_))
          refine (middle_ok _ cC KC.out 2 5 (one_ 7) rfl mvX CC.out 0 mvSu rfl (mv_hne _) (by decide) (mv_hsb _) BC.out (by decide) (by decide) (by rw [OC.out, if_neg (by intro h; rcases h with h | h; exact h YES2.out; exact h YES5.out), if_neg (by decide), if_pos rfl]; rfl) wq yC).mono ?_
          rw [R1.out]
          rintro en wy4 ⟨v4, rfl, hs, hb⟩
          obtain ⟨vt4, vc4, rfl, ht, hc⟩ := hs [] (fun _ h => by cases h)
          have o4t := ht.one
          have o4c := hc.one
          have I4 := Lib.hid (info_co (vt := vt4) (vc := vc4) (c := cM) KM.out.pre KM.out.bank)
          have L4 : Hid ((coC vt4 vc4 cM).length = 43) := Lib.hid (coC_len (c := cM) KM.out.pre KM.out.bank)
          have x4 : CoX [] wy4 (.agg (coC vt4 vc4 cM).toArray) cM := ⟨vt4, vc4, rfl, ht, hc⟩
          clear hs ht hc
          replace dC := dC.to hb
          replace yC := yC.to hb
          replace ff := ff.trans (hb.mono ff.size)
          clear hb
          go_wp2_with (first
            | (refine wpl_store_new rfl _ _ _ rfl 30 _ (coC vt4 vc4 cM) rfl rfl (by rw [L4.out]; rfl) I4.out (coC_one o4t o4c) ?_
               intro wz4 dX hz
               simp only [Act.put, List.setIfInBounds_toArray, List.set_cons_zero, List.set_cons_succ]
               replace dC := dC.to hz
               replace yC := yC.to hz
               replace ff := ff.trans (hz.mono ff.size)
               have yX := x4.to hz
               clear hz x4)
            | (refine wpl_load_fld (by rfl) _ _ rfl wy4.heap.size 0 rfl (coC vt4 vc4 cM) _ dX.range Try.underlying30 rfl I4.out ?_))
          refine (side_err _ cM KM.out 2 0 true (YES2.out) 2 (by rw [PM.out, if_neg (by omega)]) (by decide) wz4 yX).mono ?_
          rintro en wy5 ⟨v5, rfl, hs, hb⟩
          obtain ⟨vt5, vc5, rfl, ht, hc⟩ := hs [] (fun _ h => by cases h)
          have o5t := ht.one
          have o5c := hc.one
          have I5 := Lib.hid (info_co (vt := vt5) (vc := vc5) (c := cM) KM.out.pre KM.out.bank)
          have L5 : Hid ((coC vt5 vc5 cM).length = 43) := Lib.hid (coC_len (c := cM) KM.out.pre KM.out.bank)
          have x5 : CoX [] wy5 (.agg (coC vt5 vc5 cM).toArray) cM := ⟨vt5, vc5, rfl, ht, hc⟩
          clear hs ht hc
          replace dC := dC.to hb
          replace yC := yC.to hb
          replace dX := dX.to hb
          replace yX := yX.to hb
          replace ff := ff.trans (hb.mono ff.size)
          clear hb
          go_wp2_with (first
            | (refine wpl_store_new rfl _ _ _ rfl 30 _ (coC vt5 vc5 cM) rfl rfl (by rw [L5.out]; rfl) I5.out (coC_one o5t o5c) ?_
               intro wz5 dY hz
               simp only [Act.put, List.setIfInBounds_toArray, List.set_cons_zero, List.set_cons_succ]
               replace dC := dC.to hz
               replace yC := yC.to hz
               replace dX := dX.to hz
               replace yX := yX.to hz
               replace ff := ff.trans (hz.mono ff.size)
               have yY := x5.to hz
               clear hz x5)
            | (refine wpl_load_fld (by rfl) _ _ rfl wy4.heap.size 0 rfl (coC vt4 vc4 cM) _ dX.range Try.underlying30 rfl I4.out ?_)
            | (refine wpl_build (by rfl) _ _ rfl _ (by exact builtC8) ?_))
          refine (middle_ok _ cM KM.out 2 5 (one_ 8) rfl mvX2 CM.out 0 mvSu2 rfl (mv_hne _) (by decide) (mv_hsb _) BM.out (by decide) (by decide) (by rw [OM.out, if_neg (by intro h; rcases h with h | h; exact h YES2.out; exact h YES5.out), if_neg (by decide), if_pos rfl]; rfl) wz5 yX).mono ?_
          rw [R2.out]
          rintro en wy6 ⟨v6, rfl, hs, hb⟩
          obtain ⟨vt6, vc6, rfl, ht, hc⟩ := hs [] (fun _ h => by cases h)
          have o6t := ht.one
          have o6c := hc.one
          have I6 := Lib.hid (info_co (vt := vt6) (vc := vc6) (c := cM) KM.out.pre KM.out.bank)
          have L6 : Hid ((coC vt6 vc6 cM).length = 43) := Lib.hid (coC_len (c := cM) KM.out.pre KM.out.bank)
          have x6 : CoX [] wy6 (.agg (coC vt6 vc6 cM).toArray) cM := ⟨vt6, vc6, rfl, ht, hc⟩
          clear hs ht hc
          replace dC := dC.to hb
          replace yC := yC.to hb
          replace dX := dX.to hb
          replace yX := yX.to hb
          replace dY := dY.to hb
          replace yY := yY.to hb
          replace ff := ff.trans (hb.mono ff.size)
          clear hb
          go_wp2_with (first
            | (refine wpl_store_new rfl _ _ _ rfl 30 _ (coC vt6 vc6 cM) rfl rfl (by rw [L6.out]; rfl) I6.out (coC_one o6t o6c) ?_
               intro wz6 dG hz
               simp only [Act.put, List.setIfInBounds_toArray, List.set_cons_zero, List.set_cons_succ]
               replace dC := dC.to hz
               replace yC := yC.to hz
               replace dX := dX.to hz
               replace yX := yX.to hz
               replace dY := dY.to hz
               replace yY := yY.to hz
               replace ff := ff.trans (hz.mono ff.size)
               have yG := x6.to hz
               clear hz x6
               clear dG yG)
            | (refine wpl_load_fld (by rfl) _ _ rfl C 0 rfl (coC vt2 vc2 cC) _ dC.range Try.underlying30 rfl I2.out ?_))
          refine (side_ok _ cC KC.out 5 true YES5.out mvX CC.out 0 mvSu rfl (mv_hne _) (by decide) (mv_hsb _) BC.out (by decide) (by decide) (by decide) (by decide) (by decide) (by rw [PC.out, if_pos rfl]; rfl) wz6 yC).mono ?_
          rw [R3.out]
          rintro en wy7 ⟨v7, rfl, hs, hb⟩
          obtain ⟨vt7, vc7, rfl, ht, hc⟩ := hs [] (fun _ h => by cases h)
          have o7t := ht.one
          have o7c := hc.one
          have I7 := Lib.hid (info_co (vt := vt7) (vc := vc7) (c := cC) KC.out.pre KC.out.bank)
          have L7 : Hid ((coC vt7 vc7 cC).length = 43) := Lib.hid (coC_len (c := cC) KC.out.pre KC.out.bank)
          have x7 : CoX [] wy7 (.agg (coC vt7 vc7 cC).toArray) cC := ⟨vt7, vc7, rfl, ht, hc⟩
          clear hs ht hc
          replace dC := dC.to hb
          replace yC := yC.to hb
          replace dX := dX.to hb
          replace yX := yX.to hb
          replace dY := dY.to hb
          replace yY := yY.to hb
          replace ff := ff.trans (hb.mono ff.size)
          clear hb
          go_wp2_with (first
            | (refine wpl_store_new rfl _ _ _ rfl 30 _ (coC vt7 vc7 cC) rfl rfl (by rw [L7.out]; rfl) I7.out (coC_one o7t o7c) ?_
               intro wz7 dH hz
               simp only [Act.put, List.setIfInBounds_toArray, List.set_cons_zero, List.set_cons_succ]
               replace dC := dC.to hz
               replace yC := yC.to hz
               replace dX := dX.to hz
               replace yX := yX.to hz
               replace dY := dY.to hz
               replace yY := yY.to hz
               replace ff := ff.trans (hz.mono ff.size)
               have yH := x7.to hz
               clear hz x7
               clear dH yH))
          have w1m : IntKind.i64.wrap (1 + m) = 1 + m := IntWalk.i64_in _ (by omega)
          refine wp_region_P (.take 0 (.take 1 (.take 4 (.two 2 (.take 3 (.two 5 (.take 6 (.take 7 (.take 8 (.one 9 (.one 10 (.take 11 .done)))))) 9 (.one 5 (.take 6 (.take 7 (.take 8 (.one 10 (.take 11 .done)))))))) 9 (.one 2 (.take 3 (.one 5 (.take 6 (.take 7 (.take 8 (.one 10 (.take 11 .done)))))))))))) (Below wz7.heap.size) (by kernel_rfl) (by kernel_rfl) (by kernel_rfl) (by decide +kernel) (Below.refl _) (fun _ _ _ => Below.trans) (by intro d v c a w h; first | (cases d <;> exact h) | exact absurd h.1 (by simp)) ?_
          have bC : Blk wz7.drew C 30 (coC vt2 vc2 cC) := dC
          have bX : Blk wz7.drew wy4.heap.size 30 (coC vt4 vc4 cM) := dX
          have bY : Blk wz7.drew wy5.heap.size 30 (coC vt5 vc5 cM) := dY
          have zC := yC.drew
          have zX := yX.drew
          have zY := yY.drew
          have fg := ff.drew
          clear dC yC dX yX dY yY ff
          have hsz : wz7.heap.size = wz7.drew.heap.size := rfl
          rw [hsz]
          clear hsz
          generalize wz7.drew = U0 at *
          refine wpP_load rfl (by rfl) _ _ rfl C 0 rfl (coC vt2 vc2 cC) _ (fun w' hw' => (bC.below hw' bC.lt).range) Try.underlying30 rfl I2.out ?_; simp only [Act.put, List.setIfInBounds_toArray, List.set_cons_zero, List.set_cons_succ]
          first | (refine wpP_quiet (v := ?_) rfl (by rfl) ?_ ?_; rotate_left; (· (intro w' hw'; go_simp; try with_reducible rfl)); simp only [Act.put, List.setIfInBounds_toArray, List.set_cons_zero, List.set_cons_succ]) | (refine wpP_skip rfl (by rfl) ?_; simp only [Act.put, List.setIfInBounds_toArray, List.set_cons_zero, List.set_cons_succ])
          refine wpP_build rfl (by rfl) _ _ rfl _ (by exact builtC8) ?_; simp only [Act.put, List.setIfInBounds_toArray, List.set_cons_zero, List.set_cons_succ]
          refine wpP_two ?_ ?_
          · refine wpP_loud rfl (by rfl) ?_
            intro K hK
            go_simp
            refine (within_capstanlaw17 wh 9 U0 (by omega) (by omega) w_lo w_hi).mono ?_
            rintro e w9 ⟨rfl, rfl⟩
            rw [HM.out]
            refine hK.out _ _ (Below.refl _ _) ?_
            clear hK K
            try simp only [Act.put, List.setIfInBounds_toArray, List.set_cons_zero, List.set_cons_succ]
            first | (refine wpP_quiet (v := ?_) rfl (by rfl) ?_ ?_; rotate_left; (· (intro w' hw'; go_simp; try with_reducible rfl)); simp only [Act.put, List.setIfInBounds_toArray, List.set_cons_zero, List.set_cons_succ]) | (refine wpP_skip rfl (by rfl) ?_; simp only [Act.put, List.setIfInBounds_toArray, List.set_cons_zero, List.set_cons_succ])
            refine wpP_two ?_ ?_
            · refine wpP_loud rfl (by rfl) ?_
              intro K hK
              go_simp
              refine (middle_err _ cC KC.out 2 (1 + m) 5 (one_ 8) rfl 2 (one_past CC.out 2 5 (1 + m) (by omega) YES2.out YES5.out) (by decide) U0 zC).mono ?_
              rintro en V1 ⟨v9, rfl, hs, hb⟩
              obtain ⟨vt9, vc9, rfl, ht, hc⟩ := hs [] (fun _ h => by cases h)
              have o9t := ht.one
              have o9c := hc.one
              have I9 := Lib.hid (info_co (vt := vt9) (vc := vc9) (c := cC) KC.out.pre KC.out.bank)
              have L9 : Hid ((coC vt9 vc9 cC).length = 43) := Lib.hid (coC_len (c := cC) KC.out.pre KC.out.bank)
              clear hs ht hc
              refine hK.out _ _ hb ?_
              clear hK K
              try simp only [Act.put, List.setIfInBounds_toArray, List.set_cons_zero, List.set_cons_succ]
              have f2 : Below U0.heap.size U0 V1 := hb
              clear hb
              first | (refine wpP_quiet (v := ?_) rfl (by rfl) ?_ ?_; rotate_left; (· (intro w' hw'; go_simp; try with_reducible rfl)); simp only [Act.put, List.setIfInBounds_toArray, List.set_cons_zero, List.set_cons_succ]) | (refine wpP_skip rfl (by rfl) ?_; simp only [Act.put, List.setIfInBounds_toArray, List.set_cons_zero, List.set_cons_succ])
              first | (refine wpP_quiet (v := ?_) rfl (by rfl) ?_ ?_; rotate_left; (· (intro w' hw'; go_simp; try with_reducible rfl)); simp only [Act.put, List.setIfInBounds_toArray, List.set_cons_zero, List.set_cons_succ]) | (refine wpP_skip rfl (by rfl) ?_; simp only [Act.put, List.setIfInBounds_toArray, List.set_cons_zero, List.set_cons_succ])
              first | (refine wpP_quiet (v := ?_) rfl (by rfl) ?_ ?_; rotate_left; (· (intro w' hw'; go_simp; try with_reducible rfl)); simp only [Act.put, List.setIfInBounds_toArray, List.set_cons_zero, List.set_cons_succ]) | (refine wpP_skip rfl (by rfl) ?_; simp only [Act.put, List.setIfInBounds_toArray, List.set_cons_zero, List.set_cons_succ])
              refine wpP_one ?_
              refine wpP_loud rfl (by rfl) ?_
              intro K hK
              go_simp
              refine hK.out _ _ ((Below.refl _ _).alloc (by exact f2.size) _) ?_
              clear hK K
              try simp only [Act.put, List.setIfInBounds_toArray, List.set_cons_zero, List.set_cons_succ]
              have bG : Blk (V1.alloc (.cells #[.int .i64 0, .int .u8 0, .int .u8 0, .int .u8 0, .int .u8 0, .int .u8 0, .int .u8 0, .int .u8 0, .int .u8 0, .int .u8 0, .int .u8 0, .int .u8 0, .int .u8 0, .int .u8 0, .int .u8 0, .int .u8 0, .int .u8 0, .int .u8 0, .int .u8 0, .int .u8 0, .int .u8 0, .int .u8 0, .int .u8 0, .int .u8 0, .int .u8 0, .int .u8 0, .int .u8 0, .int .u8 0, .int .u8 0, .int .u8 0, .int .u8 0, .int .u8 0, .int .u8 0, .slice none 0 0, .int .i64 0, .int .i64 0, .int .i64 0, .int .i64 0, .int .i64 0, .int .i64 0, .int .i64 0, .int .i64 0, .slice none 0 0] 30)) V1.heap.size 30 zeroCC := Blk.new V1 #[.int .i64 0, .int .u8 0, .int .u8 0, .int .u8 0, .int .u8 0, .int .u8 0, .int .u8 0, .int .u8 0, .int .u8 0, .int .u8 0, .int .u8 0, .int .u8 0, .int .u8 0, .int .u8 0, .int .u8 0, .int .u8 0, .int .u8 0, .int .u8 0, .int .u8 0, .int .u8 0, .int .u8 0, .int .u8 0, .int .u8 0, .int .u8 0, .int .u8 0, .int .u8 0, .int .u8 0, .int .u8 0, .int .u8 0, .int .u8 0, .int .u8 0, .int .u8 0, .int .u8 0, .slice none 0 0, .int .i64 0, .int .i64 0, .int .i64 0, .int .i64 0, .int .i64 0, .int .i64 0, .int .i64 0, .int .i64 0, .slice none 0 0] 30
              have hVG : U0.heap.size ≤ V1.heap.size := f2.size
              replace f2 : Below U0.heap.size U0 (V1.alloc (.cells #[.int .i64 0, .int .u8 0, .int .u8 0, .int .u8 0, .int .u8 0, .int .u8 0, .int .u8 0, .int .u8 0, .int .u8 0, .int .u8 0, .int .u8 0, .int .u8 0, .int .u8 0, .int .u8 0, .int .u8 0, .int .u8 0, .int .u8 0, .int .u8 0, .int .u8 0, .int .u8 0, .int .u8 0, .int .u8 0, .int .u8 0, .int .u8 0, .int .u8 0, .int .u8 0, .int .u8 0, .int .u8 0, .int .u8 0, .int .u8 0, .int .u8 0, .int .u8 0, .int .u8 0, .slice none 0 0, .int .i64 0, .int .i64 0, .int .i64 0, .int .i64 0, .int .i64 0, .int .i64 0, .int .i64 0, .int .i64 0, .slice none 0 0] 30)) := f2.alloc (by exact f2.size) _
              generalize V1.alloc (.cells #[.int .i64 0, .int .u8 0, .int .u8 0, .int .u8 0, .int .u8 0, .int .u8 0, .int .u8 0, .int .u8 0, .int .u8 0, .int .u8 0, .int .u8 0, .int .u8 0, .int .u8 0, .int .u8 0, .int .u8 0, .int .u8 0, .int .u8 0, .int .u8 0, .int .u8 0, .int .u8 0, .int .u8 0, .int .u8 0, .int .u8 0, .int .u8 0, .int .u8 0, .int .u8 0, .int .u8 0, .int .u8 0, .int .u8 0, .int .u8 0, .int .u8 0, .int .u8 0, .int .u8 0, .slice none 0 0, .int .i64 0, .int .i64 0, .int .i64 0, .int .i64 0, .int .i64 0, .int .i64 0, .int .i64 0, .int .i64 0, .slice none 0 0] 30) = V2 at *
              generalize hG : V1.heap.size = G at *
              refine wpP_one ?_
              refine wpP_loud rfl (by rfl) ?_
              intro K hK
              refine wp_store_fld _ _ _ rfl G 0 _ _ (coC vt9 vc9 cC) rfl _ rfl rfl bG (by rw [L9.out]; exact Nat.le_refl _) I9.out (coC_one o9t o9c) ?_
              intro V3 bG3 bu3
              refine hK.out _ _ (below_but bu3 hVG f2.size) ?_
              clear hK K
              try simp only [Act.put, List.setIfInBounds_toArray, List.set_cons_zero, List.set_cons_succ]
              first | (refine wpP_quiet (v := ?_) rfl (by rfl) ?_ ?_; rotate_left; (· (intro w' hw'; go_simp; try with_reducible rfl)); simp only [Act.put, List.setIfInBounds_toArray, List.set_cons_zero, List.set_cons_succ]) | (refine wpP_skip rfl (by rfl) ?_; simp only [Act.put, List.setIfInBounds_toArray, List.set_cons_zero, List.set_cons_succ])
              refine wpP_done ?_
              have f3 := f2.trans (below_but bu3 hVG f2.size)
              have dX := bX.to f3
              have dY := bY.to f3
              have yX := zX.to f3
              have yY := zY.to f3
              have ff := fg.trans (f3.mono fg.size)
              clear f3 f2 bu3 bG3 bG hVG hG
              go_wp2_with (first
                | (refine wpl_load_fld (by rfl) _ _ rfl wy4.heap.size 0 rfl (coC vt4 vc4 cM) _ dX.range Try.underlying30 rfl I4.out ?_)
                | (refine wpl_load_fld (by rfl) _ _ rfl wy5.heap.size 0 rfl (coC vt5 vc5 cM) _ dY.range Try.underlying30 rfl I5.out ?_))
              refine (sameC_any _ _ cM KM.out V3 yX yY).mono ?_
              rintro e wq ⟨rfl, hb⟩
              replace ff := ff.trans (hb.mono ff.size)
              go_wp2_with fail
              go_ret
              exact ⟨rfl, ff⟩
            · refine wpP_loud rfl (by rfl) ?_
              intro K hK
              go_simp
              refine hK.out _ _ ((Below.refl _ _).alloc (Nat.le_refl _) _) ?_
              clear hK K
              try simp only [Act.put, List.setIfInBounds_toArray, List.set_cons_zero, List.set_cons_succ]
              have bG : Blk (U0.alloc (.cells #[.int .i64 0, .int .u8 0, .int .u8 0, .int .u8 0, .int .u8 0, .int .u8 0, .int .u8 0, .int .u8 0, .int .u8 0, .int .u8 0, .int .u8 0, .int .u8 0, .int .u8 0, .int .u8 0, .int .u8 0, .int .u8 0, .int .u8 0, .int .u8 0, .int .u8 0, .int .u8 0, .int .u8 0, .int .u8 0, .int .u8 0, .int .u8 0, .int .u8 0, .int .u8 0, .int .u8 0, .int .u8 0, .int .u8 0, .int .u8 0, .int .u8 0, .int .u8 0, .int .u8 0, .slice none 0 0, .int .i64 0, .int .i64 0, .int .i64 0, .int .i64 0, .int .i64 0, .int .i64 0, .int .i64 0, .int .i64 0, .slice none 0 0] 30)) U0.heap.size 30 zeroCC := Blk.new U0 #[.int .i64 0, .int .u8 0, .int .u8 0, .int .u8 0, .int .u8 0, .int .u8 0, .int .u8 0, .int .u8 0, .int .u8 0, .int .u8 0, .int .u8 0, .int .u8 0, .int .u8 0, .int .u8 0, .int .u8 0, .int .u8 0, .int .u8 0, .int .u8 0, .int .u8 0, .int .u8 0, .int .u8 0, .int .u8 0, .int .u8 0, .int .u8 0, .int .u8 0, .int .u8 0, .int .u8 0, .int .u8 0, .int .u8 0, .int .u8 0, .int .u8 0, .int .u8 0, .int .u8 0, .slice none 0 0, .int .i64 0, .int .i64 0, .int .i64 0, .int .i64 0, .int .i64 0, .int .i64 0, .int .i64 0, .int .i64 0, .slice none 0 0] 30
              have f2 : Below U0.heap.size U0 (U0.alloc (.cells #[.int .i64 0, .int .u8 0, .int .u8 0, .int .u8 0, .int .u8 0, .int .u8 0, .int .u8 0, .int .u8 0, .int .u8 0, .int .u8 0, .int .u8 0, .int .u8 0, .int .u8 0, .int .u8 0, .int .u8 0, .int .u8 0, .int .u8 0, .int .u8 0, .int .u8 0, .int .u8 0, .int .u8 0, .int .u8 0, .int .u8 0, .int .u8 0, .int .u8 0, .int .u8 0, .int .u8 0, .int .u8 0, .int .u8 0, .int .u8 0, .int .u8 0, .int .u8 0, .int .u8 0, .slice none 0 0, .int .i64 0, .int .i64 0, .int .i64 0, .int .i64 0, .int .i64 0, .int .i64 0, .int .i64 0, .int .i64 0, .slice none 0 0] 30)) := (Below.refl _ _).alloc (Nat.le_refl _) _
              generalize U0.alloc (.cells #[.int .i64 0, .int .u8 0, .int .u8 0, .int .u8 0, .int .u8 0, .int .u8 0, .int .u8 0, .int .u8 0, .int .u8 0, .int .u8 0, .int .u8 0, .int .u8 0, .int .u8 0, .int .u8 0, .int .u8 0, .int .u8 0, .int .u8 0, .int .u8 0, .int .u8 0, .int .u8 0, .int .u8 0, .int .u8 0, .int .u8 0, .int .u8 0, .int .u8 0, .int .u8 0, .int .u8 0, .int .u8 0, .int .u8 0, .int .u8 0, .int .u8 0, .int .u8 0, .int .u8 0, .slice none 0 0, .int .i64 0, .int .i64 0, .int .i64 0, .int .i64 0, .int .i64 0, .int .i64 0, .int .i64 0, .int .i64 0, .slice none 0 0] 30) = V2 at *
              obtain ⟨G, hG⟩ : ∃ G, U0.heap.size = G := ⟨_, rfl⟩
              rw [show Blk V2 U0.heap.size 30 zeroCC = Blk V2 G 30 zeroCC from by rw [hG]] at bG
              have hVG : U0.heap.size ≤ G := by omega
              refine wpP_one ?_
              refine wpP_loud rfl (by rfl) ?_
              intro K hK
              go_simp
              refine (middle_err _ cC KC.out 2 (1 + m) 5 (one_ 8) rfl 2 (one_past CC.out 2 5 (1 + m) (by omega) YES2.out YES5.out) (by decide) V2 (zC.to f2)).mono ?_
              rintro en V1 ⟨v9, rfl, hs, hb⟩
              obtain ⟨vt9, vc9, rfl, ht, hc⟩ := hs [] (fun _ h => by cases h)
              have o9t := ht.one
              have o9c := hc.one
              have I9 := Lib.hid (info_co (vt := vt9) (vc := vc9) (c := cC) KC.out.pre KC.out.bank)
              have L9 : Hid ((coC vt9 vc9 cC).length = 43) := Lib.hid (coC_len (c := cC) KC.out.pre KC.out.bank)
              clear hs ht hc
              refine hK.out _ _ (hb.mono f2.size) ?_
              clear hK K
              try simp only [Act.put, List.setIfInBounds_toArray, List.set_cons_zero, List.set_cons_succ]
              replace bG := bG.to hb
              replace f2 := f2.trans (hb.mono f2.size)
              clear hb
              first | (refine wpP_quiet (v := ?_) rfl (by rfl) ?_ ?_; rotate_left; (· (intro w' hw'; go_simp; try with_reducible rfl)); simp only [Act.put, List.setIfInBounds_toArray, List.set_cons_zero, List.set_cons_succ]) | (refine wpP_skip rfl (by rfl) ?_; simp only [Act.put, List.setIfInBounds_toArray, List.set_cons_zero, List.set_cons_succ])
              first | (refine wpP_quiet (v := ?_) rfl (by rfl) ?_ ?_; rotate_left; (· (intro w' hw'; go_simp; try with_reducible rfl)); simp only [Act.put, List.setIfInBounds_toArray, List.set_cons_zero, List.set_cons_succ]) | (refine wpP_skip rfl (by rfl) ?_; simp only [Act.put, List.setIfInBounds_toArray, List.set_cons_zero, List.set_cons_succ])
              first | (refine wpP_quiet (v := ?_) rfl (by rfl) ?_ ?_; rotate_left; (· (intro w' hw'; go_simp; try with_reducible rfl)); simp only [Act.put, List.setIfInBounds_toArray, List.set_cons_zero, List.set_cons_succ]) | (refine wpP_skip rfl (by rfl) ?_; simp only [Act.put, List.setIfInBounds_toArray, List.set_cons_zero, List.set_cons_succ])
              refine wpP_one ?_
              refine wpP_loud rfl (by rfl) ?_
              intro K hK
              refine wp_store_fld _ _ _ rfl G 0 _ _ (coC vt9 vc9 cC) rfl _ rfl rfl bG (by rw [L9.out]; exact Nat.le_refl _) I9.out (coC_one o9t o9c) ?_
              intro V3 bG3 bu3
              refine hK.out _ _ (below_but bu3 hVG f2.size) ?_
              clear hK K
              try simp only [Act.put, List.setIfInBounds_toArray, List.set_cons_zero, List.set_cons_succ]
              first | (refine wpP_quiet (v := ?_) rfl (by rfl) ?_ ?_; rotate_left; (· (intro w' hw'; go_simp; try with_reducible rfl)); simp only [Act.put, List.setIfInBounds_toArray, List.set_cons_zero, List.set_cons_succ]) | (refine wpP_skip rfl (by rfl) ?_; simp only [Act.put, List.setIfInBounds_toArray, List.set_cons_zero, List.set_cons_succ])
              refine wpP_done ?_
              have f3 := f2.trans (below_but bu3 hVG f2.size)
              have dX := bX.to f3
              have dY := bY.to f3
              have yX := zX.to f3
              have yY := zY.to f3
              have ff := fg.trans (f3.mono fg.size)
              clear f3 f2 bu3 bG3 bG hVG hG
              go_wp2_with (first
                | (refine wpl_load_fld (by rfl) _ _ rfl wy4.heap.size 0 rfl (coC vt4 vc4 cM) _ dX.range Try.underlying30 rfl I4.out ?_)
                | (refine wpl_load_fld (by rfl) _ _ rfl wy5.heap.size 0 rfl (coC vt5 vc5 cM) _ dY.range Try.underlying30 rfl I5.out ?_))
              refine (sameC_any _ _ cM KM.out V3 yX yY).mono ?_
              rintro e wq ⟨rfl, hb⟩
              replace ff := ff.trans (hb.mono ff.size)
              go_wp2_with fail
              go_ret
              exact ⟨rfl, ff⟩
          · refine wpP_loud rfl (by rfl) ?_
            intro K hK
            go_simp
            refine hK.out _ _ ((Below.refl _ _).alloc (Nat.le_refl _) _) ?_
            clear hK K
            try simp only [Act.put, List.setIfInBounds_toArray, List.set_cons_zero, List.set_cons_succ]
            have bG : Blk (U0.alloc (.cells #[.int .i64 0, .int .u8 0, .int .u8 0, .int .u8 0, .int .u8 0, .int .u8 0, .int .u8 0, .int .u8 0, .int .u8 0, .int .u8 0, .int .u8 0, .int .u8 0, .int .u8 0, .int .u8 0, .int .u8 0, .int .u8 0, .int .u8 0, .int .u8 0, .int .u8 0, .int .u8 0, .int .u8 0, .int .u8 0, .int .u8 0, .int .u8 0, .int .u8 0, .int .u8 0, .int .u8 0, .int .u8 0, .int .u8 0, .int .u8 0, .int .u8 0, .int .u8 0, .int .u8 0, .slice none 0 0, .int .i64 0, .int .i64 0, .int .i64 0, .int .i64 0, .int .i64 0, .int .i64 0, .int .i64 0, .int .i64 0, .slice none 0 0] 30)) U0.heap.size 30 zeroCC := Blk.new U0 #[.int .i64 0, .int .u8 0, .int .u8 0, .int .u8 0, .int .u8 0, .int .u8 0, .int .u8 0, .int .u8 0, .int .u8 0, .int .u8 0, .int .u8 0, .int .u8 0, .int .u8 0, .int .u8 0, .int .u8 0, .int .u8 0, .int .u8 0, .int .u8 0, .int .u8 0, .int .u8 0, .int .u8 0, .int .u8 0, .int .u8 0, .int .u8 0, .int .u8 0, .int .u8 0, .int .u8 0, .int .u8 0, .int .u8 0, .int .u8 0, .int .u8 0, .int .u8 0, .int .u8 0, .slice none 0 0, .int .i64 0, .int .i64 0, .int .i64 0, .int .i64 0, .int .i64 0, .int .i64 0, .int .i64 0, .int .i64 0, .slice none 0 0] 30
            have f2 : Below U0.heap.size U0 (U0.alloc (.cells #[.int .i64 0, .int .u8 0, .int .u8 0, .int .u8 0, .int .u8 0, .int .u8 0, .int .u8 0, .int .u8 0, .int .u8 0, .int .u8 0, .int .u8 0, .int .u8 0, .int .u8 0, .int .u8 0, .int .u8 0, .int .u8 0, .int .u8 0, .int .u8 0, .int .u8 0, .int .u8 0, .int .u8 0, .int .u8 0, .int .u8 0, .int .u8 0, .int .u8 0, .int .u8 0, .int .u8 0, .int .u8 0, .int .u8 0, .int .u8 0, .int .u8 0, .int .u8 0, .int .u8 0, .slice none 0 0, .int .i64 0, .int .i64 0, .int .i64 0, .int .i64 0, .int .i64 0, .int .i64 0, .int .i64 0, .int .i64 0, .slice none 0 0] 30)) := (Below.refl _ _).alloc (Nat.le_refl _) _
            generalize U0.alloc (.cells #[.int .i64 0, .int .u8 0, .int .u8 0, .int .u8 0, .int .u8 0, .int .u8 0, .int .u8 0, .int .u8 0, .int .u8 0, .int .u8 0, .int .u8 0, .int .u8 0, .int .u8 0, .int .u8 0, .int .u8 0, .int .u8 0, .int .u8 0, .int .u8 0, .int .u8 0, .int .u8 0, .int .u8 0, .int .u8 0, .int .u8 0, .int .u8 0, .int .u8 0, .int .u8 0, .int .u8 0, .int .u8 0, .int .u8 0, .int .u8 0, .int .u8 0, .int .u8 0, .int .u8 0, .slice none 0 0, .int .i64 0, .int .i64 0, .int .i64 0, .int .i64 0, .int .i64 0, .int .i64 0, .int .i64 0, .int .i64 0, .slice none 0 0] 30) = V2 at *
            obtain ⟨G, hG⟩ : ∃ G, U0.heap.size = G := ⟨_, rfl⟩
            rw [show Blk V2 U0.heap.size 30 zeroCC = Blk V2 G 30 zeroCC from by rw [hG]] at bG
            have hVG : U0.heap.size ≤ G := by omega
            refine wpP_one ?_
            refine wpP_loud rfl (by rfl) ?_
            intro K hK
            go_simp
            refine (within_capstanlaw17 wh 9 V2 (by omega) (by omega) w_lo w_hi).mono ?_
            rintro e w9 ⟨rfl, rfl⟩
            rw [HM.out]
            refine hK.out _ _ (Below.refl _ _) ?_
            clear hK K
            try simp only [Act.put, List.setIfInBounds_toArray, List.set_cons_zero, List.set_cons_succ]
            first | (refine wpP_quiet (v := ?_) rfl (by rfl) ?_ ?_; rotate_left; (· (intro w' hw'; go_simp; try with_reducible rfl)); simp only [Act.put, List.setIfInBounds_toArray, List.set_cons_zero, List.set_cons_succ]) | (refine wpP_skip rfl (by rfl) ?_; simp only [Act.put, List.setIfInBounds_toArray, List.set_cons_zero, List.set_cons_succ])
            refine wpP_one ?_
            refine wpP_loud rfl (by rfl) ?_
            intro K hK
            go_simp
            refine (middle_err _ cC KC.out 2 (1 + m) 5 (one_ 8) rfl 2 (one_past CC.out 2 5 (1 + m) (by omega) YES2.out YES5.out) (by decide) V2 (zC.to f2)).mono ?_
            rintro en V1 ⟨v9, rfl, hs, hb⟩
            obtain ⟨vt9, vc9, rfl, ht, hc⟩ := hs [] (fun _ h => by cases h)
            have o9t := ht.one
            have o9c := hc.one
            have I9 := Lib.hid (info_co (vt := vt9) (vc := vc9) (c := cC) KC.out.pre KC.out.bank)
            have L9 : Hid ((coC vt9 vc9 cC).length = 43) := Lib.hid (coC_len (c := cC) KC.out.pre KC.out.bank)
            clear hs ht hc
            refine hK.out _ _ (hb.mono f2.size) ?_
            clear hK K
            try simp only [Act.put, List.setIfInBounds_toArray, List.set_cons_zero, List.set_cons_succ]
            replace bG := bG.to hb
            replace f2 := f2.trans (hb.mono f2.size)
            clear hb
            first | (refine wpP_quiet (v := ?_) rfl (by rfl) ?_ ?_; rotate_left; (· (intro w' hw'; go_simp; try with_reducible rfl)); simp only [Act.put, List.setIfInBounds_toArray, List.set_cons_zero, List.set_cons_succ]) | (refine wpP_skip rfl (by rfl) ?_; simp only [Act.put, List.setIfInBounds_toArray, List.set_cons_zero, List.set_cons_succ])
            first | (refine wpP_quiet (v := ?_) rfl (by rfl) ?_ ?_; rotate_left; (· (intro w' hw'; go_simp; try with_reducible rfl)); simp only [Act.put, List.setIfInBounds_toArray, List.set_cons_zero, List.set_cons_succ]) | (refine wpP_skip rfl (by rfl) ?_; simp only [Act.put, List.setIfInBounds_toArray, List.set_cons_zero, List.set_cons_succ])
            first | (refine wpP_quiet (v := ?_) rfl (by rfl) ?_ ?_; rotate_left; (· (intro w' hw'; go_simp; try with_reducible rfl)); simp only [Act.put, List.setIfInBounds_toArray, List.set_cons_zero, List.set_cons_succ]) | (refine wpP_skip rfl (by rfl) ?_; simp only [Act.put, List.setIfInBounds_toArray, List.set_cons_zero, List.set_cons_succ])
            refine wpP_one ?_
            refine wpP_loud rfl (by rfl) ?_
            intro K hK
            refine wp_store_fld _ _ _ rfl G 0 _ _ (coC vt9 vc9 cC) rfl _ rfl rfl bG (by rw [L9.out]; exact Nat.le_refl _) I9.out (coC_one o9t o9c) ?_
            intro V3 bG3 bu3
            refine hK.out _ _ (below_but bu3 hVG f2.size) ?_
            clear hK K
            try simp only [Act.put, List.setIfInBounds_toArray, List.set_cons_zero, List.set_cons_succ]
            first | (refine wpP_quiet (v := ?_) rfl (by rfl) ?_ ?_; rotate_left; (· (intro w' hw'; go_simp; try with_reducible rfl)); simp only [Act.put, List.setIfInBounds_toArray, List.set_cons_zero, List.set_cons_succ]) | (refine wpP_skip rfl (by rfl) ?_; simp only [Act.put, List.setIfInBounds_toArray, List.set_cons_zero, List.set_cons_succ])
            refine wpP_done ?_
            have f3 := f2.trans (below_but bu3 hVG f2.size)
            have dX := bX.to f3
            have dY := bY.to f3
            have yX := zX.to f3
            have yY := zY.to f3
            have ff := fg.trans (f3.mono fg.size)
            clear f3 f2 bu3 bG3 bG hVG hG
            go_wp2_with (first
              | (refine wpl_load_fld (by rfl) _ _ rfl wy4.heap.size 0 rfl (coC vt4 vc4 cM) _ dX.range Try.underlying30 rfl I4.out ?_)
              | (refine wpl_load_fld (by rfl) _ _ rfl wy5.heap.size 0 rfl (coC vt5 vc5 cM) _ dY.range Try.underlying30 rfl I5.out ?_))
            refine (sameC_any _ _ cM KM.out V3 yX yY).mono ?_
            rintro e wq ⟨rfl, hb⟩
            replace ff := ff.trans (hb.mono ff.size)
            go_wp2_with fail
            go_ret
            exact ⟨rfl, ff⟩
    · by_cases h5 : p = 5
      · subst h5
        have t1 : True := trivial
        by_cases hr7 : 7 < r
        · clear t1
          have t2 : r > 7 := hr7
          have t2d : decide (7 < r) = true := decide_eq_true hr7
          go_wp2_with (first
            | (refine wpl_load_fld (by rfl) _ _ rfl C 0 rfl (coC vt2 vc2 cC) _ dC.range Try.underlying30 rfl I2.out ?_)
            | (refine wpl_build (by rfl) _ _ rfl _ (by exact builtC7) ?_))
          refine (middle_err _ cC KC.out 5 0 r (one_ 7) rfl 1 (by rw [OC.out]; exact ite_same (by decide)) (by decide) w4 yC).mono ?_
          rintro en wy3 ⟨v3, rfl, hs, hb⟩
          obtain ⟨vt3, vc3, rfl, ht, hc⟩ := hs [] (fun _ h => by cases h)
          have o3t := ht.one
          have o3c := hc.one
          have I3 := Lib.hid (info_co (vt := vt3) (vc := vc3) (c := cC) KC.out.pre KC.out.bank)
          have L3 : Hid ((coC vt3 vc3 cC).length = 43) := Lib.hid (coC_len (c := cC) KC.out.pre KC.out.bank)
          have x3 : CoX [] wy3 (.agg (coC vt3 vc3 cC).toArray) cC := ⟨vt3, vc3, rfl, ht, hc⟩
          clear hs ht hc
          replace dC := dC.to hb
          replace yC := yC.to hb
          replace ff := ff.trans (hb.mono ff.size)
          clear hb
          go_wp2_with (first
            | (refine wpl_store_new rfl _ _ _ rfl 30 _ (coC vt3 vc3 cC) rfl rfl (by rw [L3.out]; rfl) I3.out (coC_one o3t o3c) ?_
               intro wz3 dD hz
               simp only [Act.put, List.setIfInBounds_toArray, List.set_cons_zero, List.set_cons_succ]
               replace dC := dC.to hz
               replace yC := yC.to hz
               replace ff := ff.trans (hz.mono ff.size)
               have yD := x3.to hz
               clear hz x3)
            | (refine wpl_load_fld (by rfl) _ _ rfl C 0 rfl (coC vt2 vc2 cC) _ dC.range Try.underlying30 rfl I2.out ?_)
            | (refine wpl_load_fld (by rfl) _ _ rfl wy3.heap.size 0 rfl (coC vt3 vc3 cC) _ dD.range Try.underlying30 rfl I3.out ?_))
          refine (sameC_any _ _ cC KC.out wz3 yC yD).mono ?_
          rintro e wq ⟨rfl, hb⟩
          clear dD yD
          replace dC := dC.to hb
          replace yC := yC.to hb
          replace ff := ff.trans (hb.mono ff.size)
          clear hb
          go_wp2_with (first
            | (refine wpl_load_fld (by rfl) _ _ rfl C 0 rfl (coC vt2 vc2 cC) _ dC.range Try.underlying30 rfl I2.out ?_)
            | (refine wpl_build (by rfl) _ _ rfl _ (by exact builtC7) ?_))
          refine (middle_ok _ cC KC.out 2 5 (one_ 7) rfl mvX CC.out 0 mvSu rfl (mv_hne _) (by decide) (mv_hsb _) BC.out (by decide) (by decide) (by rw [OC.out, if_neg (by intro h; rcases h with h | h; exact h YES2.out; exact h YES5.out), if_neg (by decide), if_pos rfl]; rfl) wq yC).mono ?_
          rw [R1.out]
          rintro en wy4 ⟨v4, rfl, hs, hb⟩
          obtain ⟨vt4, vc4, rfl, ht, hc⟩ := hs [] (fun _ h => by cases h)
          have o4t := ht.one
          have o4c := hc.one
          have I4 := Lib.hid (info_co (vt := vt4) (vc := vc4) (c := cM) KM.out.pre KM.out.bank)
          have L4 : Hid ((coC vt4 vc4 cM).length = 43) := Lib.hid (coC_len (c := cM) KM.out.pre KM.out.bank)
          have x4 : CoX [] wy4 (.agg (coC vt4 vc4 cM).toArray) cM := ⟨vt4, vc4, rfl, ht, hc⟩
          clear hs ht hc
          replace dC := dC.to hb
          replace yC := yC.to hb
          replace ff := ff.trans (hb.mono ff.size)
          clear hb
          go_wp2_with (first
            | (refine wpl_store_new rfl _ _ _ rfl 30 _ (coC vt4 vc4 cM) rfl rfl (by rw [L4.out]; rfl) I4.out (coC_one o4t o4c) ?_
               intro wz4 dX hz
               simp only [Act.put, List.setIfInBounds_toArray, List.set_cons_zero, List.set_cons_succ]
               replace dC := dC.to hz
               replace yC := yC.to hz
               replace ff := ff.trans (hz.mono ff.size)
               have yX := x4.to hz
               clear hz x4)
            | (refine wpl_load_fld (by rfl) _ _ rfl wy4.heap.size 0 rfl (coC vt4 vc4 cM) _ dX.range Try.underlying30 rfl I4.out ?_))
          refine (side_ok _ cM KM.out 5 true YES5.out mvX2 CM.out 0 mvSu2 rfl (mv_hne _) (by decide) (mv_hsb _) BM.out (by decide) (by decide) (by decide) (by decide) (by decide) (by rw [PM.out, if_pos rfl]; rfl) wz4 yX).mono ?_
          rw [R4.out]
          rintro en wy5 ⟨v5, rfl, hs, hb⟩
          obtain ⟨vt5, vc5, rfl, ht, hc⟩ := hs [] (fun _ h => by cases h)
          have o5t := ht.one
          have o5c := hc.one
          have I5 := Lib.hid (info_co (vt := vt5) (vc := vc5) (c := cN) KN.out.pre KN.out.bank)
          have L5 : Hid ((coC vt5 vc5 cN).length = 43) := Lib.hid (coC_len (c := cN) KN.out.pre KN.out.bank)
          have x5 : CoX [] wy5 (.agg (coC vt5 vc5 cN).toArray) cN := ⟨vt5, vc5, rfl, ht, hc⟩
          clear hs ht hc
          replace dC := dC.to hb
          replace yC := yC.to hb
          replace dX := dX.to hb
          replace yX := yX.to hb
          replace ff := ff.trans (hb.mono ff.size)
          clear hb
          go_wp2_with (first
            | (refine wpl_store_new rfl _ _ _ rfl 30 _ (coC vt5 vc5 cN) rfl rfl (by rw [L5.out]; rfl) I5.out (coC_one o5t o5c) ?_
               intro wz5 dY hz
               simp only [Act.put, List.setIfInBounds_toArray, List.set_cons_zero, List.set_cons_succ]
               replace dC := dC.to hz
               replace yC := yC.to hz
               replace dX := dX.to hz
               replace yX := yX.to hz
               replace ff := ff.trans (hz.mono ff.size)
               have yY := x5.to hz
               clear hz x5)
            | (refine wpl_load_fld (by rfl) _ _ rfl wy4.heap.size 0 rfl (coC vt4 vc4 cM) _ dX.range Try.underlying30 rfl I4.out ?_)
            | (refine wpl_build (by rfl) _ _ rfl _ (by exact builtC8) ?_))
          clear dY yY
          refine (middle_ok _ cM KM.out 2 5 (one_ 8) rfl mvX2 CM.out 0 mvSu2 rfl (mv_hne _) (by decide) (mv_hsb _) BM.out (by decide) (by decide) (by rw [OM.out, if_neg (by intro h; rcases h with h | h; exact h YES2.out; exact h YES5.out), if_neg (by decide), if_pos rfl]; rfl) wz5 yX).mono ?_
          rw [R2.out]
          rintro en wy6 ⟨v6, rfl, hs, hb⟩
          obtain ⟨vt6, vc6, rfl, ht, hc⟩ := hs [] (fun _ h => by cases h)
          have o6t := ht.one
          have o6c := hc.one
          have I6 := Lib.hid (info_co (vt := vt6) (vc := vc6) (c := cM) KM.out.pre KM.out.bank)
          have L6 : Hid ((coC vt6 vc6 cM).length = 43) := Lib.hid (coC_len (c := cM) KM.out.pre KM.out.bank)
          have x6 : CoX [] wy6 (.agg (coC vt6 vc6 cM).toArray) cM := ⟨vt6, vc6, rfl, ht, hc⟩
          clear hs ht hc
          replace dC := dC.to hb
          replace yC := yC.to hb
          replace dX := dX.to hb
          replace yX := yX.to hb
          replace ff := ff.trans (hb.mono ff.size)
          clear hb
          go_wp2_with (first
            | (refine wpl_store_new rfl _ _ _ rfl 30 _ (coC vt6 vc6 cM) rfl rfl (by rw [L6.out]; rfl) I6.out (coC_one o6t o6c) ?_
               intro wz6 dG hz
               simp only [Act.put, List.setIfInBounds_toArray, List.set_cons_zero, List.set_cons_succ]
               replace dC := dC.to hz
               replace yC := yC.to hz
               replace dX := dX.to hz
               replace yX := yX.to hz
               replace ff := ff.trans (hz.mono ff.size)
               have yG := x6.to hz
               clear hz x6
               clear dG yG)
            | (refine wpl_load_fld (by rfl) _ _ rfl C 0 rfl (coC vt2 vc2 cC) _ dC.range Try.underlying30 rfl I2.out ?_))
          refine (side_ok _ cC KC.out 5 true YES5.out mvX CC.out 0 mvSu rfl (mv_hne _) (by decide) (mv_hsb _) BC.out (by decide) (by decide) (by decide) (by decide) (by decide) (by rw [PC.out, if_pos rfl]; rfl) wz6 yC).mono ?_
          rw [R3.out]
          rintro en wy7 ⟨v7, rfl, hs, hb⟩
          obtain ⟨vt7, vc7, rfl, ht, hc⟩ := hs [] (fun _ h => by cases h)
          have o7t := ht.one
          have o7c := hc.one
          have I7 := Lib.hid (info_co (vt := vt7) (vc := vc7) (c := cC) KC.out.pre KC.out.bank)
          have L7 : Hid ((coC vt7 vc7 cC).length = 43) := Lib.hid (coC_len (c := cC) KC.out.pre KC.out.bank)
          have x7 : CoX [] wy7 (.agg (coC vt7 vc7 cC).toArray) cC := ⟨vt7, vc7, rfl, ht, hc⟩
          clear hs ht hc
          replace dC := dC.to hb
          replace yC := yC.to hb
          replace dX := dX.to hb
          replace yX := yX.to hb
          replace ff := ff.trans (hb.mono ff.size)
          clear hb
          go_wp2_with (first
            | (refine wpl_store_new rfl _ _ _ rfl 30 _ (coC vt7 vc7 cC) rfl rfl (by rw [L7.out]; rfl) I7.out (coC_one o7t o7c) ?_
               intro wz7 dH hz
               simp only [Act.put, List.setIfInBounds_toArray, List.set_cons_zero, List.set_cons_succ]
               replace dC := dC.to hz
               replace yC := yC.to hz
               replace dX := dX.to hz
               replace yX := yX.to hz
               replace ff := ff.trans (hz.mono ff.size)
               have yH := x7.to hz
               clear hz x7
               clear dH yH))
          have w1m : IntKind.i64.wrap (1 + m) = 1 + m := IntWalk.i64_in _ (by omega)
          refine wp_region_P (.take 0 (.take 1 (.take 4 (.two 2 (.take 3 (.two 5 (.take 6 (.take 7 (.take 8 (.one 9 (.one 10 (.take 11 .done)))))) 9 (.one 5 (.take 6 (.take 7 (.take 8 (.one 10 (.take 11 .done)))))))) 9 (.one 2 (.take 3 (.one 5 (.take 6 (.take 7 (.take 8 (.one 10 (.take 11 .done)))))))))))) (Below wz7.heap.size) (by kernel_rfl) (by kernel_rfl) (by kernel_rfl) (by decide +kernel) (Below.refl _) (fun _ _ _ => Below.trans) (by intro d v c a w h; first | (cases d <;> exact h) | exact absurd h.1 (by simp)) ?_
          have bC : Blk wz7.drew C 30 (coC vt2 vc2 cC) := dC
          have bX : Blk wz7.drew wy4.heap.size 30 (coC vt4 vc4 cM) := dX
          have zC := yC.drew
          have zX := yX.drew
          have fg := ff.drew
          clear dC yC dX yX ff
          have hsz : wz7.heap.size = wz7.drew.heap.size := rfl
          rw [hsz]
          clear hsz
          generalize wz7.drew = U0 at *
          refine wpP_load rfl (by rfl) _ _ rfl C 0 rfl (coC vt2 vc2 cC) _ (fun w' hw' => (bC.below hw' bC.lt).range) Try.underlying30 rfl I2.out ?_; simp only [Act.put, List.setIfInBounds_toArray, List.set_cons_zero, List.set_cons_succ]
          first | (refine wpP_quiet (v := ?_) rfl (by rfl) ?_ ?_; rotate_left; (· (intro w' hw'; go_simp; try with_reducible rfl)); simp only [Act.put, List.setIfInBounds_toArray, List.set_cons_zero, List.set_cons_succ]) | (refine wpP_skip rfl (by rfl) ?_; simp only [Act.put, List.setIfInBounds_toArray, List.set_cons_zero, List.set_cons_succ])
          refine wpP_build rfl (by rfl) _ _ rfl _ (by exact builtC8) ?_; simp only [Act.put, List.setIfInBounds_toArray, List.set_cons_zero, List.set_cons_succ]
          refine wpP_two ?_ ?_
          · refine wpP_loud rfl (by rfl) ?_
            intro K hK
            go_simp
            refine (within_capstanlaw17 wh 9 U0 (by omega) (by omega) w_lo w_hi).mono ?_
            rintro e w9 ⟨rfl, rfl⟩
            rw [HM.out]
            refine hK.out _ _ (Below.refl _ _) ?_
            clear hK K
            try simp only [Act.put, List.setIfInBounds_toArray, List.set_cons_zero, List.set_cons_succ]
            first | (refine wpP_quiet (v := ?_) rfl (by rfl) ?_ ?_; rotate_left; (· (intro w' hw'; go_simp; try with_reducible rfl)); simp only [Act.put, List.setIfInBounds_toArray, List.set_cons_zero, List.set_cons_succ]) | (refine wpP_skip rfl (by rfl) ?_; simp only [Act.put, List.setIfInBounds_toArray, List.set_cons_zero, List.set_cons_succ])
            refine wpP_two ?_ ?_
            · refine wpP_loud rfl (by rfl) ?_
              intro K hK
              go_simp
              refine (middle_err _ cC KC.out 2 (1 + m) 5 (one_ 8) rfl 2 (one_past CC.out 2 5 (1 + m) (by omega) YES2.out YES5.out) (by decide) U0 zC).mono ?_
              rintro en V1 ⟨v9, rfl, hs, hb⟩
              obtain ⟨vt9, vc9, rfl, ht, hc⟩ := hs [] (fun _ h => by cases h)
              have o9t := ht.one
              have o9c := hc.one
              have I9 := Lib.hid (info_co (vt := vt9) (vc := vc9) (c := cC) KC.out.pre KC.out.bank)
              have L9 : Hid ((coC vt9 vc9 cC).length = 43) := Lib.hid (coC_len (c := cC) KC.out.pre KC.out.bank)
              clear hs ht hc
              refine hK.out _ _ hb ?_
              clear hK K
              try simp only [Act.put, List.setIfInBounds_toArray, List.set_cons_zero, List.set_cons_succ]
              have f2 : Below U0.heap.size U0 V1 := hb
              clear hb
              first | (refine wpP_quiet (v := ?_) rfl (by rfl) ?_ ?_; rotate_left; (· (intro w' hw'; go_simp; try with_reducible rfl)); simp only [Act.put, List.setIfInBounds_toArray, List.set_cons_zero, List.set_cons_succ]) | (refine wpP_skip rfl (by rfl) ?_; simp only [Act.put, List.setIfInBounds_toArray, List.set_cons_zero, List.set_cons_succ])
              first | (refine wpP_quiet (v := ?_) rfl (by rfl) ?_ ?_; rotate_left; (· (intro w' hw'; go_simp; try with_reducible rfl)); simp only [Act.put, List.setIfInBounds_toArray, List.set_cons_zero, List.set_cons_succ]) | (refine wpP_skip rfl (by rfl) ?_; simp only [Act.put, List.setIfInBounds_toArray, List.set_cons_zero, List.set_cons_succ])
              first | (refine wpP_quiet (v := ?_) rfl (by rfl) ?_ ?_; rotate_left; (· (intro w' hw'; go_simp; try with_reducible rfl)); simp only [Act.put, List.setIfInBounds_toArray, List.set_cons_zero, List.set_cons_succ]) | (refine wpP_skip rfl (by rfl) ?_; simp only [Act.put, List.setIfInBounds_toArray, List.set_cons_zero, List.set_cons_succ])
              refine wpP_one ?_
              refine wpP_loud rfl (by rfl) ?_
              intro K hK
              go_simp
              refine hK.out _ _ ((Below.refl _ _).alloc (by exact f2.size) _) ?_
              clear hK K
              try simp only [Act.put, List.setIfInBounds_toArray, List.set_cons_zero, List.set_cons_succ]
              have bG : Blk (V1.alloc (.cells #[.int .i64 0, .int .u8 0, .int .u8 0, .int .u8 0, .int .u8 0, .int .u8 0, .int .u8 0, .int .u8 0, .int .u8 0, .int .u8 0, .int .u8 0, .int .u8 0, .int .u8 0, .int .u8 0, .int .u8 0, .int .u8 0, .int .u8 0, .int .u8 0, .int .u8 0, .int .u8 0, .int .u8 0, .int .u8 0, .int .u8 0, .int .u8 0, .int .u8 0, .int .u8 0, .int .u8 0, .int .u8 0, .int .u8 0, .int .u8 0, .int .u8 0, .int .u8 0, .int .u8 0, .slice none 0 0, .int .i64 0, .int .i64 0, .int .i64 0, .int .i64 0, .int .i64 0, .int .i64 0, .int .i64 0, .int .i64 0, .slice none 0 0] 30)) V1.heap.size 30 zeroCC := Blk.new V1 #[.int .i64 0, .int .u8 0, .int .u8 0, .int .u8 0, .int .u8 0, .int .u8 0, .int .u8 0, .int .u8 0, .int .u8 0, .int .u8 0, .int .u8 0, .int .u8 0, .int .u8 0, .int .u8 0, .int .u8 0, .int .u8 0, .int .u8 0, .int .u8 0, .int .u8 0, .int .u8 0, .int .u8 0, .int .u8 0, .int .u8 0, .int .u8 0, .int .u8 0, .int .u8 0, .int .u8 0, .int .u8 0, .int .u8 0, .int .u8 0, .int .u8 0, .int .u8 0, .int .u8 0, .slice none 0 0, .int .i64 0, .int .i64 0, .int .i64 0, .int .i64 0, .int .i64 0, .int .i64 0, .int .i64 0, .int .i64 0, .slice none 0 0] 30
              have hVG : U0.heap.size ≤ V1.heap.size := f2.size
              replace f2 : Below U0.heap.size U0 (V1.alloc (.cells #[.int .i64 0, .int .u8 0, .int .u8 0, .int .u8 0, .int .u8 0, .int .u8 0, .int .u8 0, .int .u8 0, .int .u8 0, .int .u8 0, .int .u8 0, .int .u8 0, .int .u8 0, .int .u8 0, .int .u8 0, .int .u8 0, .int .u8 0, .int .u8 0, .int .u8 0, .int .u8 0, .int .u8 0, .int .u8 0, .int .u8 0, .int .u8 0, .int .u8 0, .int .u8 0, .int .u8 0, .int .u8 0, .int .u8 0, .int .u8 0, .int .u8 0, .int .u8 0, .int .u8 0, .slice none 0 0, .int .i64 0, .int .i64 0, .int .i64 0, .int .i64 0, .int .i64 0, .int .i64 0, .int .i64 0, .int .i64 0, .slice none 0 0] 30)) := f2.alloc (by exact f2.size) _
              generalize V1.alloc (.cells #[.int .i64 0, .int .u8 0, .int .u8 0, .int .u8 0, .int .u8 0, .int .u8 0, .int .u8 0, .int .u8 0, .int .u8 0, .int .u8 0, .int .u8 0, .int .u8 0, .int .u8 0, .int .u8 0, .int .u8 0, .int .u8 0, .int .u8 0, .int .u8 0, .int .u8 0, .int .u8 0, .int .u8 0, .int .u8 0, .int .u8 0, .int .u8 0, .int .u8 0, .int .u8 0, .int .u8 0, .int .u8 0, .int .u8 0, .int .u8 0, .int .u8 0, .int .u8 0, .int .u8 0, .slice none 0 0, .int .i64 0, .int .i64 0, .int .i64 0, .int .i64 0, .int .i64 0, .int .i64 0, .int .i64 0, .int .i64 0, .slice none 0 0] 30) = V2 at *
              generalize hG : V1.heap.size = G at *
              refine wpP_one ?_
              refine wpP_loud rfl (by rfl) ?_
              intro K hK
              refine wp_store_fld _ _ _ rfl G 0 _ _ (coC vt9 vc9 cC) rfl _ rfl rfl bG (by rw [L9.out]; exact Nat.le_refl _) I9.out (coC_one o9t o9c) ?_
              intro V3 bG3 bu3
              refine hK.out _ _ (below_but bu3 hVG f2.size) ?_
              clear hK K
              try simp only [Act.put, List.setIfInBounds_toArray, List.set_cons_zero, List.set_cons_succ]
              first | (refine wpP_quiet (v := ?_) rfl (by rfl) ?_ ?_; rotate_left; (· (intro w' hw'; go_simp; try with_reducible rfl)); simp only [Act.put, List.setIfInBounds_toArray, List.set_cons_zero, List.set_cons_succ]) | (refine wpP_skip rfl (by rfl) ?_; simp only [Act.put, List.setIfInBounds_toArray, List.set_cons_zero, List.set_cons_succ])
              refine wpP_done ?_
              have f3 := f2.trans (below_but bu3 hVG f2.size)
              have dX := bX.to f3
              have yX := zX.to f3
              have ff := fg.trans (f3.mono fg.size)
              clear f3 f2 bu3 bG3 bG hVG hG
              go_wp2_with fail
              go_ret
              exact ⟨rfl, ff⟩
            · refine wpP_loud rfl (by rfl) ?_
              intro K hK
              go_simp
              refine hK.out _ _ ((Below.refl _ _).alloc (Nat.le_refl _) _) ?_
              clear hK K
              try simp only [Act.put, List.setIfInBounds_toArray, List.set_cons_zero, List.set_cons_succ]
              have bG : Blk (U0.alloc (.cells #[.int .i64 0, .int .u8 0, .int .u8 0, .int .u8 0, .int .u8 0, .int .u8 0, .int .u8 0, .int .u8 0, .int .u8 0, .int .u8 0, .int .u8 0, .int .u8 0, .int .u8 0, .int .u8 0, .int .u8 0, .int .u8 0, .int .u8 0, .int .u8 0, .int .u8 0, .int .u8 0, .int .u8 0, .int .u8 0, .int .u8 0, .int .u8 0, .int .u8 0, .int .u8 0, .int .u8 0, .int .u8 0, .int .u8 0, .int .u8 0, .int .u8 0, .int .u8 0, .int .u8 0, .slice none 0 0, .int .i64 0, .int .i64 0, .int .i64 0, .int .i64 0, .int .i64 0, .int .i64 0, .int .i64 0, .int .i64 0, .slice none 0 0] 30)) U0.heap.size 30 zeroCC := Blk.new U0 #[.int .i64 0, .int .u8 0, .int .u8 0, .int .u8 0, .int .u8 0, .int .u8 0, .int .u8 0, .int .u8 0, .int .u8 0, .int .u8 0, .int .u8 0, .int .u8 0, .int .u8 0, .int .u8 0, .int .u8 0, .int .u8 0, .int .u8 0, .int .u8 0, .int .u8 0, .int .u8 0, .int .u8 0, .int .u8 0, .int .u8 0, .int .u8 0, .int .u8 0, .int .u8 0, .int .u8 0, .int .u8 0, .int .u8 0, .int .u8 0, .int .u8 0, .int .u8 0, .int .u8 0, .slice none 0 0, .int .i64 0, .int .i64 0, .int .i64 0, .int .i64 0, .int .i64 0, .int .i64 0, .int .i64 0, .int .i64 0, .slice none 0 0] 30
              have f2 : Below U0.heap.size U0 (U0.alloc (.cells #[.int .i64 0, .int .u8 0, .int .u8 0, .int .u8 0, .int .u8 0, .int .u8 0, .int .u8 0, .int .u8 0, .int .u8 0, .int .u8 0, .int .u8 0, .int .u8 0, .int .u8 0, .int .u8 0, .int .u8 0, .int .u8 0, .int .u8 0, .int .u8 0, .int .u8 0, .int .u8 0, .int .u8 0, .int .u8 0, .int .u8 0, .int .u8 0, .int .u8 0, .int .u8 0, .int .u8 0, .int .u8 0, .int .u8 0, .int .u8 0, .int .u8 0, .int .u8 0, .int .u8 0, .slice none 0 0, .int .i64 0, .int .i64 0, .int .i64 0, .int .i64 0, .int .i64 0, .int .i64 0, .int .i64 0, .int .i64 0, .slice none 0 0] 30)) := (Below.refl _ _).alloc (Nat.le_refl _) _
              generalize U0.alloc (.cells #[.int .i64 0, .int .u8 0, .int .u8 0, .int .u8 0, .int .u8 0, .int .u8 0, .int .u8 0, .int .u8 0, .int .u8 0, .int .u8 0, .int .u8 0, .int .u8 0, .int .u8 0, .int .u8 0, .int .u8 0, .int .u8 0, .int .u8 0, .int .u8 0, .int .u8 0, .int .u8 0, .int .u8 0, .int .u8 0, .int .u8 0, .int .u8 0, .int .u8 0, .int .u8 0, .int .u8 0, .int .u8 0, .int .u8 0, .int .u8 0, .int .u8 0, .int .u8 0, .int .u8 0, .slice none 0 0, .int .i64 0, .int .i64 0, .int .i64 0, .int .i64 0, .int .i64 0, .int .i64 0, .int .i64 0, .int .i64 0, .slice none 0 0] 30) = V2 at *
              obtain ⟨G, hG⟩ : ∃ G, U0.heap.size = G := ⟨_, rfl⟩
              rw [show Blk V2 U0.heap.size 30 zeroCC = Blk V2 G 30 zeroCC from by rw [hG]] at bG
              have hVG : U0.heap.size ≤ G := by omega
              refine wpP_one ?_
              refine wpP_loud rfl (by rfl) ?_
              intro K hK
              go_simp
              refine (middle_err _ cC KC.out 2 (1 + m) 5 (one_ 8) rfl 2 (one_past CC.out 2 5 (1 + m) (by omega) YES2.out YES5.out) (by decide) V2 (zC.to f2)).mono ?_
              rintro en V1 ⟨v9, rfl, hs, hb⟩
              obtain ⟨vt9, vc9, rfl, ht, hc⟩ := hs [] (fun _ h => by cases h)
              have o9t := ht.one
              have o9c := hc.one
              have I9 := Lib.hid (info_co (vt := vt9) (vc := vc9) (c := cC) KC.out.pre KC.out.bank)
              have L9 : Hid ((coC vt9 vc9 cC).length = 43) := Lib.hid (coC_len (c := cC) KC.out.pre KC.out.bank)
              clear hs ht hc
              refine hK.out _ _ (hb.mono f2.size) ?_
              clear hK K
              try simp only [Act.put, List.setIfInBounds_toArray, List.set_cons_zero, List.set_cons_succ]
              replace bG := bG.to hb
              replace f2 := f2.trans (hb.mono f2.size)
              clear hb
              first | (refine wpP_quiet (v := ?_) rfl (by rfl) ?_ ?_; rotate_left; (· (intro w' hw'; go_simp; try with_reducible rfl)); simp only [Act.put, List.setIfInBounds_toArray, List.set_cons_zero, List.set_cons_succ]) | (refine wpP_skip rfl (by rfl) ?_; simp only [Act.put, List.setIfInBounds_toArray, List.set_cons_zero, List.set_cons_succ])
              first | (refine wpP_quiet (v := ?_) rfl (by rfl) ?_ ?_; rotate_left; (· (intro w' hw'; go_simp; try with_reducible rfl)); simp only [Act.put, List.setIfInBounds_toArray, List.set_cons_zero, List.set_cons_succ]) | (refine wpP_skip rfl (by rfl) ?_; simp only [Act.put, List.setIfInBounds_toArray, List.set_cons_zero, List.set_cons_succ])
              first | (refine wpP_quiet (v := ?_) rfl (by rfl) ?_ ?_; rotate_left; (· (intro w' hw'; go_simp; try with_reducible rfl)); simp only [Act.put, List.setIfInBounds_toArray, List.set_cons_zero, List.set_cons_succ]) | (refine wpP_skip rfl (by rfl) ?_; simp only [Act.put, List.setIfInBounds_toArray, List.set_cons_zero, List.set_cons_succ])
              refine wpP_one ?_
              refine wpP_loud rfl (by rfl) ?_
              intro K hK
              refine wp_store_fld _ _ _ rfl G 0 _ _ (coC vt9 vc9 cC) rfl _ rfl rfl bG (by rw [L9.out]; exact Nat.le_refl _) I9.out (coC_one o9t o9c) ?_
              intro V3 bG3 bu3
              refine hK.out _ _ (below_but bu3 hVG f2.size) ?_
              clear hK K
              try simp only [Act.put, List.setIfInBounds_toArray, List.set_cons_zero, List.set_cons_succ]
              first | (refine wpP_quiet (v := ?_) rfl (by rfl) ?_ ?_; rotate_left; (· (intro w' hw'; go_simp; try with_reducible rfl)); simp only [Act.put, List.setIfInBounds_toArray, List.set_cons_zero, List.set_cons_succ]) | (refine wpP_skip rfl (by rfl) ?_; simp only [Act.put, List.setIfInBounds_toArray, List.set_cons_zero, List.set_cons_succ])
              refine wpP_done ?_
              have f3 := f2.trans (below_but bu3 hVG f2.size)
              have dX := bX.to f3
              have yX := zX.to f3
              have ff := fg.trans (f3.mono fg.size)
              clear f3 f2 bu3 bG3 bG hVG hG
              go_wp2_with fail
              go_ret
              exact ⟨rfl, ff⟩
          · refine wpP_loud rfl (by rfl) ?_
            intro K hK
            go_simp
            refine hK.out _ _ ((Below.refl _ _).alloc (Nat.le_refl _) _) ?_
            clear hK K
            try simp only [Act.put, List.setIfInBounds_toArray, List.set_cons_zero, List.set_cons_succ]
            have bG : Blk (U0.alloc (.cells #[.int .i64 0, .int .u8 0, .int .u8 0, .int .u8 0, .int .u8 0, .int .u8 0, .int .u8 0, .int .u8 0, .int .u8 0, .int .u8 0, .int .u8 0, .int .u8 0, .int .u8 0, .int .u8 0, .int .u8 0, .int .u8 0, .int .u8 0, .int .u8 0, .int .u8 0, .int .u8 0, .int .u8 0, .int .u8 0, .int .u8 0, .int .u8 0, .int .u8 0, .int .u8 0, .int .u8 0, .int .u8 0, .int .u8 0, .int .u8 0, .int .u8 0, .int .u8 0, .int .u8 0, .slice none 0 0, .int .i64 0, .int .i64 0, .int .i64 0, .int .i64 0, .int .i64 0, .int .i64 0, .int .i64 0, .int .i64 0, .slice none 0 0] 30)) U0.heap.size 30 zeroCC := Blk.new U0 #[.int .i64 0, .int .u8 0, .int .u8 0, .int .u8 0, .int .u8 0, .int .u8 0, .int .u8 0, .int .u8 0, .int .u8 0, .int .u8 0, .int .u8 0, .int .u8 0, .int .u8 0, .int .u8 0, .int .u8 0, .int .u8 0, .int .u8 0, .int .u8 0, .int .u8 0, .int .u8 0, .int .u8 0, .int .u8 0, .int .u8 0, .int .u8 0, .int .u8 0, .int .u8 0, .int .u8 0, .int .u8 0, .int .u8 0, .int .u8 0, .int .u8 0, .int .u8 0, .int .u8 0, .slice none 0 0, .int .i64 0, .int .i64 0, .int .i64 0, .int .i64 0, .int .i64 0, .int .i64 0, .int .i64 0, .int .i64 0, .slice none 0 0] 30
            have f2 : Below U0.heap.size U0 (U0.alloc (.cells #[.int .i64 0, .int .u8 0, .int .u8 0, .int .u8 0, .int .u8 0, .int .u8 0, .int .u8 0, .int .u8 0, .int .u8 0, .int .u8 0, .int .u8 0, .int .u8 0, .int .u8 0, .int .u8 0, .int .u8 0, .int .u8 0, .int .u8 0, .int .u8 0, .int .u8 0, .int .u8 0, .int .u8 0, .int .u8 0, .int .u8 0, .int .u8 0, .int .u8 0, .int .u8 0, .int .u8 0, .int .u8 0, .int .u8 0, .int .u8 0, .int .u8 0, .int .u8 0, .int .u8 0, .slice none 0 0, .int .i64 0, .int .i64 0, .int .i64 0, .int .i64 0, .int .i64 0, .int .i64 0, .int .i64 0, .int .i64 0, .slice none 0 0] 30)) := (Below.refl _ _).alloc (Nat.le_refl _) _
            generalize U0.alloc (.cells #[.int .i64 0, .int .u8 0, .int .u8 0, .int .u8 0, .int .u8 0, .int .u8 0, .int .u8 0, .int .u8 0, .int .u8 0, .int .u8 0, .int .u8 0, .int .u8 0, .int .u8 0, .int .u8 0, .int .u8 0, .int .u8 0, .int .u8 0, .int .u8 0, .int .u8 0, .int .u8 0, .int .u8 0, .int .u8 0, .int .u8 0, .int .u8 0, .int .u8 0, .int .u8 0, .int .u8 0, .int .u8 0, .int .u8 0, .int .u8 0, .int .u8 0, .int .u8 0, .int .u8 0, .slice none 0 0, .int .i64 0, .int .i64 0, .int .i64 0, .int .i64 0, .int .i64 0, .int .i64 0, .int .i64 0, .int .i64 0, .slice none 0 0] 30) = V2 at *
            obtain ⟨G, hG⟩ : ∃ G, U0.heap.size = G := ⟨_, rfl⟩
            rw [show Blk V2 U0.heap.size 30 zeroCC = Blk V2 G 30 zeroCC from by rw [hG]] at bG
            have hVG : U0.heap.size ≤ G := by omega
            refine wpP_one ?_
            refine wpP_loud rfl (by rfl) ?_
            intro K hK
            go_simp
            refine (within_capstanlaw17 wh 9 V2 (by omega) (by omega) w_lo w_hi).mono ?_
            rintro e w9 ⟨rfl, rfl⟩
            rw [HM.out]
            refine hK.out _ _ (Below.refl _ _) ?_
            clear hK K
            try simp only [Act.put, List.setIfInBounds_toArray, List.set_cons_zero, List.set_cons_succ]
            first | (refine wpP_quiet (v := ?_) rfl (by rfl) ?_ ?_; rotate_left; (· (intro w' hw'; go_simp; try with_reducible rfl)); simp only [Act.put, List.setIfInBounds_toArray, List.set_cons_zero, List.set_cons_succ]) | (refine wpP_skip rfl (by rfl) ?_; simp only [Act.put, List.setIfInBounds_toArray, List.set_cons_zero, List.set_cons_succ])
            refine wpP_one ?_
            refine wpP_loud rfl (by rfl) ?_
            intro K hK
            go_simp
            refine (middle_err _ cC KC.out 2 (1 + m) 5 (one_ 8) rfl 2 (one_past CC.out 2 5 (1 + m) (by omega) YES2.out YES5.out) (by decide) V2 (zC.to f2)).mono ?_
            rintro en V1 ⟨v9, rfl, hs, hb⟩
            obtain ⟨vt9, vc9, rfl, ht, hc⟩ := hs [] (fun _ h => by cases h)
            have o9t := ht.one
            have o9c := hc.one
            have I9 := Lib.hid (info_co (vt := vt9) (vc := vc9) (c := cC) KC.out.pre KC.out.bank)
            have L9 : Hid ((coC vt9 vc9 cC).length = 43) := Lib.hid (coC_len (c := cC) KC.out.pre KC.out.bank)
            clear hs ht hc
            refine hK.out _ _ (hb.mono f2.size) ?_
            clear hK K
            try simp only [Act.put, List.setIfInBounds_toArray, List.set_cons_zero, List.set_cons_succ]
            replace bG := bG.to hb
            replace f2 := f2.trans (hb.mono f2.size)
            clear hb
            first | (refine wpP_quiet (v := ?_) rfl (by rfl) ?_ ?_; rotate_left; (· (intro w' hw'; go_simp; try with_reducible rfl)); simp only [Act.put, List.setIfInBounds_toArray, List.set_cons_zero, List.set_cons_succ]) | (refine wpP_skip rfl (by rfl) ?_; simp only [Act.put, List.setIfInBounds_toArray, List.set_cons_zero, List.set_cons_succ])
            first | (refine wpP_quiet (v := ?_) rfl (by rfl) ?_ ?_; rotate_left; (· (intro w' hw'; go_simp; try with_reducible rfl)); simp only [Act.put, List.setIfInBounds_toArray, List.set_cons_zero, List.set_cons_succ]) | (refine wpP_skip rfl (by rfl) ?_; simp only [Act.put, List.setIfInBounds_toArray, List.set_cons_zero, List.set_cons_succ])
            first | (refine wpP_quiet (v := ?_) rfl (by rfl) ?_ ?_; rotate_left; (· (intro w' hw'; go_simp; try with_reducible rfl)); simp only [Act.put, List.setIfInBounds_toArray, List.set_cons_zero, List.set_cons_succ]) | (refine wpP_skip rfl (by rfl) ?_; simp only [Act.put, List.setIfInBounds_toArray, List.set_cons_zero, List.set_cons_succ])
            refine wpP_one ?_
            refine wpP_loud rfl (by rfl) ?_
            intro K hK
            refine wp_store_fld _ _ _ rfl G 0 _ _ (coC vt9 vc9 cC) rfl _ rfl rfl bG (by rw [L9.out]; exact Nat.le_refl _) I9.out (coC_one o9t o9c) ?_
            intro V3 bG3 bu3
            refine hK.out _ _ (below_but bu3 hVG f2.size) ?_
            clear hK K
            try simp only [Act.put, List.setIfInBounds_toArray, List.set_cons_zero, List.set_cons_succ]
            first | (refine wpP_quiet (v := ?_) rfl (by rfl) ?_ ?_; rotate_left; (· (intro w' hw'; go_simp; try with_reducible rfl)); simp only [Act.put, List.setIfInBounds_toArray, List.set_cons_zero, List.set_cons_succ]) | (refine wpP_skip rfl (by rfl) ?_; simp only [Act.put, List.setIfInBounds_toArray, List.set_cons_zero, List.set_cons_succ])
            refine wpP_done ?_
            have f3 := f2.trans (below_but bu3 hVG f2.size)
            have dX := bX.to f3
            have yX := zX.to f3
            have ff := fg.trans (f3.mono fg.size)
            clear f3 f2 bu3 bG3 bG hVG hG
            go_wp2_with fail
            go_ret
            exact ⟨rfl, ff⟩
        · clear t1
          have t2 : ¬ r > 7 := hr7
          have t2d : decide (7 < r) = false := decide_eq_false hr7
          go_wp2_with (first
            | (refine wpl_load_fld (by rfl) _ _ rfl C 0 rfl (coC vt2 vc2 cC) _ dC.range Try.underlying30 rfl I2.out ?_)
            | (refine wpl_build (by rfl) _ _ rfl _ (by exact builtC7) ?_))
          refine (middle_err _ cC KC.out 5 0 r (one_ 7) rfl 1 (by rw [OC.out]; exact ite_same (by decide)) (by decide) w4 yC).mono ?_
          rintro en wy3 ⟨v3, rfl, hs, hb⟩
          obtain ⟨vt3, vc3, rfl, ht, hc⟩ := hs [] (fun _ h => by cases h)
          have o3t := ht.one
          have o3c := hc.one
          have I3 := Lib.hid (info_co (vt := vt3) (vc := vc3) (c := cC) KC.out.pre KC.out.bank)
          have L3 : Hid ((coC vt3 vc3 cC).length = 43) := Lib.hid (coC_len (c := cC) KC.out.pre KC.out.bank)
          have x3 : CoX [] wy3 (.agg (coC vt3 vc3 cC).toArray) cC := ⟨vt3, vc3, rfl, ht, hc⟩
          clear hs ht hc
          replace dC := dC.to hb
          replace yC := yC.to hb
          replace ff := ff.trans (hb.mono ff.size)
          clear hb
          go_wp2_with (first
            | (refine wpl_store_new rfl _ _ _ rfl 30 _ (coC vt3 vc3 cC) rfl rfl (by rw [L3.out]; rfl) I3.out (coC_one o3t o3c) ?_
               intro wz3 dD hz
               simp only [Act.put, List.setIfInBounds_toArray, List.set_cons_zero, List.set_cons_succ]
               replace dC := dC.to hz
               replace yC := yC.to hz
               replace ff := ff.trans (hz.mono ff.size)
               have yD := x3.to hz
               clear hz x3)
            | (refine wpl_load_fld (by rfl) _ _ rfl C 0 rfl (coC vt2 vc2 cC) _ dC.range Try.underlying30 rfl I2.out ?_)
            | (refine wpl_load_fld (by rfl) _ _ rfl wy3.heap.size 0 rfl (coC vt3 vc3 cC) _ dD.range Try.underlying30 rfl I3.out ?_))
          refine (sameC_any _ _ cC KC.out wz3 yC yD).mono ?_
          rintro e wq ⟨rfl, hb⟩
          clear dD yD
          replace dC := dC.to hb
          replace yC := yC.to hb
          replace ff := ff.trans (hb.mono ff.size)
          clear hb
          go_wp2_with (first
            | (refine wpl_load_fld (by rfl) _ _ rfl C 0 rfl (coC vt2 vc2 cC) _ dC.range Try.underlying30 rfl I2.out ?_)
            | (refine wpl_build (by rfl) _ _ rfl _ (by exact builtC7) ?_))
          refine (middle_ok _ cC KC.out 2 5 (one_ 7) rfl mvX CC.out 0 mvSu rfl (mv_hne _) (by decide) (mv_hsb _) BC.out (by decide) (by decide) (by rw [OC.out, if_neg (by intro h; rcases h with h | h; exact h YES2.out; exact h YES5.out), if_neg (by decide), if_pos rfl]; rfl) wq yC).mono ?_
          rw [R1.out]
          rintro en wy4 ⟨v4, rfl, hs, hb⟩
          obtain ⟨vt4, vc4, rfl, ht, hc⟩ := hs [] (fun _ h => by cases h)
          have o4t := ht.one
          have o4c := hc.one
          have I4 := Lib.hid (info_co (vt := vt4) (vc := vc4) (c := cM) KM.out.pre KM.out.bank)
          have L4 : Hid ((coC vt4 vc4 cM).length = 43) := Lib.hid (coC_len (c := cM) KM.out.pre KM.out.bank)
          have x4 : CoX [] wy4 (.agg (coC vt4 vc4 cM).toArray) cM := ⟨vt4, vc4, rfl, ht, hc⟩
          clear hs ht hc
          replace dC := dC.to hb
          replace yC := yC.to hb
          replace ff := ff.trans (hb.mono ff.size)
          clear hb
          go_wp2_with (first
            | (refine wpl_store_new rfl _ _ _ rfl 30 _ (coC vt4 vc4 cM) rfl rfl (by rw [L4.out]; rfl) I4.out (coC_one o4t o4c) ?_
               intro wz4 dX hz
               simp only [Act.put, List.setIfInBounds_toArray, List.set_cons_zero, List.set_cons_succ]
               replace dC := dC.to hz
               replace yC := yC.to hz
               replace ff := ff.trans (hz.mono ff.size)
               have yX := x4.to hz
               clear hz x4)
            | (refine wpl_load_fld (by rfl) _ _ rfl wy4.heap.size 0 rfl (coC vt4 vc4 cM) _ dX.range Try.underlying30 rfl I4.out ?_))
          refine (side_ok _ cM KM.out 5 true YES5.out mvX2 CM.out 0 mvSu2 rfl (mv_hne _) (by decide) (mv_hsb _) BM.out (by decide) (by decide) (by decide) (by decide) (by decide) (by rw [PM.out, if_pos rfl]; rfl) wz4 yX).mono ?_
          rw [R4.out]
          rintro en wy5 ⟨v5, rfl, hs, hb⟩
          obtain ⟨vt5, vc5, rfl, ht, hc⟩ := hs [] (fun _ h => by cases h)
          have o5t := ht.one
          have o5c := hc.one
          have I5 := Lib.hid (info_co (vt := vt5) (vc := vc5) (c := cN) KN.out.pre KN.out.bank)
          have L5 : Hid ((coC vt5 vc5 cN).length = 43) := Lib.hid (coC_len (c := cN) KN.out.pre KN.out.bank)
          have x5 : CoX [] wy5 (.agg (coC vt5 vc5 cN).toArray) cN := ⟨vt5, vc5, rfl, ht, hc⟩
          clear hs ht hc
          replace dC := dC.to hb
          replace yC := yC.to hb
          replace dX := dX.to hb
          replace yX := yX.to hb
          replace ff := ff.trans (hb.mono ff.size)
          clear hb
          go_wp2_with (first
            | (refine wpl_store_new rfl _ _ _ rfl 30 _ (coC vt5 vc5 cN) rfl rfl (by rw [L5.out]; rfl) I5.out (coC_one o5t o5c) ?_
               intro wz5 dY hz
               simp only [Act.put, List.setIfInBounds_toArray, List.set_cons_zero, List.set_cons_succ]
               replace dC := dC.to hz
               replace yC := yC.to hz
               replace dX := dX.to hz
               replace yX := yX.to hz
               replace ff := ff.trans (hz.mono ff.size)
               have yY := x5.to hz
               clear hz x5)
            | (refine wpl_load_fld (by rfl) _ _ rfl wy4.heap.size 0 rfl (coC vt4 vc4 cM) _ dX.range Try.underlying30 rfl I4.out ?_)
            | (refine wpl_build (by rfl) _ _ rfl _ (by exact builtC8) ?_))
          clear dY yY
          refine (middle_ok _ cM KM.out 2 5 (one_ 8) rfl mvX2 CM.out 0 mvSu2 rfl (mv_hne _) (by decide) (mv_hsb _) BM.out (by decide) (by decide) (by rw [OM.out, if_neg (by intro h; rcases h with h | h; exact h YES2.out; exact h YES5.out), if_neg (by decide), if_pos rfl]; rfl) wz5 yX).mono ?_
          rw [R2.out]
          rintro en wy6 ⟨v6, rfl, hs, hb⟩
          obtain ⟨vt6, vc6, rfl, ht, hc⟩ := hs [] (fun _ h => by cases h)
          have o6t := ht.one
          have o6c := hc.one
          have I6 := Lib.hid (info_co (vt := vt6) (vc := vc6) (c := cM) KM.out.pre KM.out.bank)
          have L6 : Hid ((coC vt6 vc6 cM).length = 43) := Lib.hid (coC_len (c := cM) KM.out.pre KM.out.bank)
          have x6 : CoX [] wy6 (.agg (coC vt6 vc6 cM).toArray) cM := ⟨vt6, vc6, rfl, ht, hc⟩
          clear hs ht hc
          replace dC := dC.to hb
          replace yC := yC.to hb
          replace dX := dX.to hb
          replace yX := yX.to hb
          replace ff := ff.trans (hb.mono ff.size)
          clear hb
          go_wp2_with (first
            | (refine wpl_store_new rfl _ _ _ rfl 30 _ (coC vt6 vc6 cM) rfl rfl (by rw [L6.out]; rfl) I6.out (coC_one o6t o6c) ?_
               intro wz6 dG hz
               simp only [Act.put, List.setIfInBounds_toArray, List.set_cons_zero, List.set_cons_succ]
               replace dC := dC.to hz
               replace yC := yC.to hz
               replace dX := dX.to hz
               replace yX := yX.to hz
               replace ff := ff.trans (hz.mono ff.size)
               have yG := x6.to hz
               clear hz x6
               clear dG yG)
            | (refine wpl_load_fld (by rfl) _ _ rfl C 0 rfl (coC vt2 vc2 cC) _ dC.range Try.underlying30 rfl I2.out ?_))
          refine (side_ok _ cC KC.out 5 true YES5.out mvX CC.out 0 mvSu rfl (mv_hne _) (by decide) (mv_hsb _) BC.out (by decide) (by decide) (by decide) (by decide) (by decide) (by rw [PC.out, if_pos rfl]; rfl) wz6 yC).mono ?_
          rw [R3.out]
          rintro en wy7 ⟨v7, rfl, hs, hb⟩
          obtain ⟨vt7, vc7, rfl, ht, hc⟩ := hs [] (fun _ h => by cases h)
          have o7t := ht.one
          have o7c := hc.one
          have I7 := Lib.hid (info_co (vt := vt7) (vc := vc7) (c := cC) KC.out.pre KC.out.bank)
          have L7 : Hid ((coC vt7 vc7 cC).length = 43) := Lib.hid (coC_len (c := cC) KC.out.pre KC.out.bank)
          have x7 : CoX [] wy7 (.agg (coC vt7 vc7 cC).toArray) cC := ⟨vt7, vc7, rfl, ht, hc⟩
          clear hs ht hc
          replace dC := dC.to hb
          replace yC := yC.to hb
          replace dX := dX.to hb
          replace yX := yX.to hb
          replace ff := ff.trans (hb.mono ff.size)
          clear hb
          go_wp2_with (first
            | (refine wpl_store_new rfl _ _ _ rfl 30 _ (coC vt7 vc7 cC) rfl rfl (by rw [L7.out]; rfl) I7.out (coC_one o7t o7c) ?_
               intro wz7 dH hz
               simp only [Act.put, List.setIfInBounds_toArray, List.set_cons_zero, List.set_cons_succ]
               replace dC := dC.to hz
               replace yC := yC.to hz
               replace dX := dX.to hz
               replace yX := yX.to hz
               replace ff := ff.trans (hz.mono ff.size)
               have yH := x7.to hz
               clear hz x7
               clear dH yH))
          have w1m : IntKind.i64.wrap (1 + m) = 1 + m := IntWalk.i64_in _ (by omega)
          refine wp_region_P (.take 0 (.take 1 (.take 4 (.two 2 (.take 3 (.two 5 (.take 6 (.take 7 (.take 8 (.one 9 (.one 10 (.take 11 .done)))))) 9 (.one 5 (.take 6 (.take 7 (.take 8 (.one 10 (.take 11 .done)))))))) 9 (.one 2 (.take 3 (.one 5 (.take 6 (.take 7 (.take 8 (.one 10 (.take 11 .done)))))))))))) (Below wz7.heap.size) (by kernel_rfl) (by kernel_rfl) (by kernel_rfl) (by decide +kernel) (Below.refl _) (fun _ _ _ => Below.trans) (by intro d v c a w h; first | (cases d <;> exact h) | exact absurd h.1 (by simp)) ?_
          have bC : Blk wz7.drew C 30 (coC vt2 vc2 cC) := dC
          have bX : Blk wz7.drew wy4.heap.size 30 (coC vt4 vc4 cM) := dX
          have zC := yC.drew
          have zX := yX.drew
          have fg := ff.drew
          clear dC yC dX yX ff
          have hsz : wz7.heap.size = wz7.drew.heap.size := rfl
          rw [hsz]
          clear hsz
          generalize wz7.drew = U0 at *
          refine wpP_load rfl (by rfl) _ _ rfl C 0 rfl (coC vt2 vc2 cC) _ (fun w' hw' => (bC.below hw' bC.lt).range) Try.underlying30 rfl I2.out ?_; simp only [Act.put, List.setIfInBounds_toArray, List.set_cons_zero, List.set_cons_succ]
          first | (refine wpP_quiet (v := ?_) rfl (by rfl) ?_ ?_; rotate_left; (· (intro w' hw'; go_simp; try with_reducible rfl)); simp only [Act.put, List.setIfInBounds_toArray, List.set_cons_zero, List.set_cons_succ]) | (refine wpP_skip rfl (by rfl) ?_; simp only [Act.put, List.setIfInBounds_toArray, List.set_cons_zero, List.set_cons_succ])
          refine wpP_build rfl (by rfl) _ _ rfl _ (by exact builtC8) ?_; simp only [Act.put, List.setIfInBounds_toArray, List.set_cons_zero, List.set_cons_succ]
          refine wpP_two ?_ ?_
          · refine wpP_loud rfl (by rfl) ?_
            intro K hK
            go_simp
            refine (within_capstanlaw17 wh 9 U0 (by omega) (by omega) w_lo w_hi).mono ?_
            rintro e w9 ⟨rfl, rfl⟩
            rw [HM.out]
            refine hK.out _ _ (Below.refl _ _) ?_
            clear hK K
            try simp only [Act.put, List.setIfInBounds_toArray, List.set_cons_zero, List.set_cons_succ]
            first | (refine wpP_quiet (v := ?_) rfl (by rfl) ?_ ?_; rotate_left; (· (intro w' hw'; go_simp; try with_reducible rfl)); simp only [Act.put, List.setIfInBounds_toArray, List.set_cons_zero, List.set_cons_succ]) | (refine wpP_skip rfl (by rfl) ?_; simp only [Act.put, List.setIfInBounds_toArray, List.set_cons_zero, List.set_cons_succ])
            refine wpP_two ?_ ?_
            · refine wpP_loud rfl (by rfl) ?_
              intro K hK
              go_simp
              refine (middle_err _ cC KC.out 2 (1 + m) 5 (one_ 8) rfl 2 (one_past CC.out 2 5 (1 + m) (by omega) YES2.out YES5.out) (by decide) U0 zC).mono ?_
              rintro en V1 ⟨v9, rfl, hs, hb⟩
              obtain ⟨vt9, vc9, rfl, ht, hc⟩ := hs [] (fun _ h => by cases h)
              have o9t := ht.one
              have o9c := hc.one
              have I9 := Lib.hid (info_co (vt := vt9) (vc := vc9) (c := cC) KC.out.pre KC.out.bank)
              have L9 : Hid ((coC vt9 vc9 cC).length = 43) := Lib.hid (coC_len (c := cC) KC.out.pre KC.out.bank)
              clear hs ht hc
              refine hK.out _ _ hb ?_
              clear hK K
              try simp only [Act.put, List.setIfInBounds_toArray, List.set_cons_zero, List.set_cons_succ]
              have f2 : Below U0.heap.size U0 V1 := hb
              clear hb
              first | (refine wpP_quiet (v := ?_) rfl (by rfl) ?_ ?_; rotate_left; (· (intro w' hw'; go_simp; try with_reducible rfl)); simp only [Act.put, List.setIfInBounds_toArray, List.set_cons_zero, List.set_cons_succ]) | (refine wpP_skip rfl (by rfl) ?_; simp only [Act.put, List.setIfInBounds_toArray, List.set_cons_zero, List.set_cons_succ])
              first | (refine wpP_quiet (v := ?_) rfl (by rfl) ?_ ?_; rotate_left; (· (intro w' hw'; go_simp; try with_reducible rfl)); simp only [Act.put, List.setIfInBounds_toArray, List.set_cons_zero, List.set_cons_succ]) | (refine wpP_skip rfl (by rfl) ?_; simp only [Act.put, List.setIfInBounds_toArray, List.set_cons_zero, List.set_cons_succ])
              first | (refine wpP_quiet (v := ?_) rfl (by rfl) ?_ ?_; rotate_left; (· (intro w' hw'; go_simp; try with_reducible rfl)); simp only [Act.put, List.setIfInBounds_toArray, List.set_cons_zero, List.set_cons_succ]) | (refine wpP_skip rfl (by rfl) ?_; simp only [Act.put, List.setIfInBounds_toArray, List.set_cons_zero, List.set_cons_succ])
              refine wpP_one ?_
              refine wpP_loud rfl (by rfl) ?_
              intro K hK
              go_simp
              refine hK.out _ _ ((Below.refl _ _).alloc (by exact f2.size) _) ?_
              clear hK K
              try simp only [Act.put, List.setIfInBounds_toArray, List.set_cons_zero, List.set_cons_succ]
              have bG : Blk (V1.alloc (.cells #[.int .i64 0, .int .u8 0, .int .u8 0, .int .u8 0, .int .u8 0, .int .u8 0, .int .u8 0, .int .u8 0, .int .u8 0, .int .u8 0, .int .u8 0, .int .u8 0, .int .u8 0, .int .u8 0, .int .u8 0, .int .u8 0, .int .u8 0, .int .u8 0, .int .u8 0, .int .u8 0, .int .u8 0, .int .u8 0, .int .u8 0, .int .u8 0, .int .u8 0, .int .u8 0, .int .u8 0, .int .u8 0, .int .u8 0, .int .u8 0, .int .u8 0, .int .u8 0, .int .u8 0, .slice none 0 0, .int .i64 0, .int .i64 0, .int .i64 0, .int .i64 0, .int .i64 0, .int .i64 0, .int .i64 0, .int .i64 0, .slice none 0 0] 30)) V1.heap.size 30 zeroCC := Blk.new V1 #[.int .i64 0, .int .u8 0, .int .u8 0, .int .u8 0, .int .u8 0, .int .u8 0, .int .u8 0, .int .u8 0, .int .u8 0, .int .u8 0, .int .u8 0, .int .u8 0, .int .u8 0, .int .u8 0, .int .u8 0, .int .u8 0, .int .u8 0, .int .u8 0, .int .u8 0, .int .u8 0, .int .u8 0, .int .u8 0, .int .u8 0, .int .u8 0, .int .u8 0, .int .u8 0, .int .u8 0, .int .u8 0, .int .u8 0, .int .u8 0, .int .u8 0, .int .u8 0, .int .u8 0, .slice none 0 0, .int .i64 0, .int .i64 0, .int .i64 0, .int .i64 0, .int .i64 0, .int .i64 0, .int .i64 0, .int .i64 0, .slice none 0 0] 30
              have hVG : U0.heap.size ≤ V1.heap.size := f2.size
              replace f2 : Below U0.heap.size U0 (V1.alloc (.cells #[.int .i64 0, .int .u8 0, .int .u8 0, .int .u8 0, .int .u8 0, .int .u8 0, .int .u8 0, .int .u8 0, .int .u8 0, .int .u8 0, .int .u8 0, .int .u8 0, .int .u8 0, .int .u8 0, .int .u8 0, .int .u8 0, .int .u8 0, .int .u8 0, .int .u8 0, .int .u8 0, .int .u8 0, .int .u8 0, .int .u8 0, .int .u8 0, .int .u8 0, .int .u8 0, .int .u8 0, .int .u8 0, .int .u8 0, .int .u8 0, .int .u8 0, .int .u8 0, .int .u8 0, .slice none 0 0, .int .i64 0, .int .i64 0, .int .i64 0, .int .i64 0, .int .i64 0, .int .i64 0, .int .i64 0, .int .i64 0, .slice none 0 0] 30)) := f2.alloc (by exact f2.size) _
              generalize V1.alloc (.cells #[.int .i64 0, .int .u8 0, .int .u8 0, .int .u8 0, .int .u8 0, .int .u8 0, .int .u8 0, .int .u8 0, .int .u8 0, .int .u8 0, .int .u8 0, .int .u8 0, .int .u8 0, .int .u8 0, .int .u8 0, .int .u8 0, .int .u8 0, .int .u8 0, .int .u8 0, .int .u8 0, .int .u8 0, .int .u8 0, .int .u8 0, .int .u8 0, .int .u8 0, .int .u8 0, .int .u8 0, .int .u8 0, .int .u8 0, .int .u8 0, .int .u8 0, .int .u8 0, .int .u8 0, .slice none 0 0, .int .i64 0, .int .i64 0, .int .i64 0, .int .i64 0, .int .i64 0, .int .i64 0, .int .i64 0, .int .i64 0, .slice none 0 0] 30) = V2 at *
              generalize hG : V1.heap.size = G at *
              refine wpP_one ?_
              refine wpP_loud rfl (by rfl) ?_
              intro K hK
              refine wp_store_fld _ _ _ rfl G 0 _ _ (coC vt9 vc9 cC) rfl _ rfl rfl bG (by rw [L9.out]; exact Nat.le_refl _) I9.out (coC_one o9t o9c) ?_
              intro V3 bG3 bu3
              refine hK.out _ _ (below_but bu3 hVG f2.size) ?_
              clear hK K
              try simp only [Act.put, List.setIfInBounds_toArray, List.set_cons_zero, List.set_cons_succ]
              first | (refine wpP_quiet (v := ?_) rfl (by rfl) ?_ ?_; rotate_left; (· (intro w' hw'; go_simp; try with_reducible rfl)); simp only [Act.put, List.setIfInBounds_toArray, List.set_cons_zero, List.set_cons_succ]) | (refine wpP_skip rfl (by rfl) ?_; simp only [Act.put, List.setIfInBounds_toArray, List.set_cons_zero, List.set_cons_succ])
              refine wpP_done ?_
              have f3 := f2.trans (below_but bu3 hVG f2.size)
              have dX := bX.to f3
              have yX := zX.to f3
              have ff := fg.trans (f3.mono fg.size)
              clear f3 f2 bu3 bG3 bG hVG hG
              go_wp2_with fail
              go_ret
              exact ⟨rfl, ff⟩
            · refine wpP_loud rfl (by rfl) ?_
              intro K hK
              go_simp
              refine hK.out _ _ ((Below.refl _ _).alloc (Nat.le_refl _) _) ?_
              clear hK K
              try simp only [Act.put, List.setIfInBounds_toArray, List.set_cons_zero, List.set_cons_succ]
              have bG : Blk (U0.alloc (.cells #[.int .i64 0, .int .u8 0, .int .u8 0, .int .u8 0, .int .u8 0, .int .u8 0, .int .u8 0, .int .u8 0, .int .u8 0, .int .u8 0, .int .u8 0, .int .u8 0, .int .u8 0, .int .u8 0, .int .u8 0, .int .u8 0, .int .u8 0, .int .u8 0, .int .u8 0, .int .u8 0, .int .u8 0, .int .u8 0, .int .u8 0, .int .u8 0, .int .u8 0, .int .u8 0, .int .u8 0, .int .u8 0, .int .u8 0, .int .u8 0, .int .u8 0, .int .u8 0, .int .u8 0, .slice none 0 0, .int .i64 0, .int .i64 0, .int .i64 0, .int .i64 0, .int .i64 0, .int .i64 0, .int .i64 0, .int .i64 0, .slice none 0 0] 30)) U0.heap.size 30 zeroCC := Blk.new U0 #[.int .i64 0, .int .u8 0, .int .u8 0, .int .u8 0, .int .u8 0, .int .u8 0, .int .u8 0, .int .u8 0, .int .u8 0, .int .u8 0, .int .u8 0, .int .u8 0, .int .u8 0, .int .u8 0, .int .u8 0, .int .u8 0, .int .u8 0, .int .u8 0, .int .u8 0, .int .u8 0, .int .u8 0, .int .u8 0, .int .u8 0, .int .u8 0, .int .u8 0, .int .u8 0, .int .u8 0, .int .u8 0, .int .u8 0, .int .u8 0, .int .u8 0, .int .u8 0, .int .u8 0, .slice none 0 0, .int .i64 0, .int .i64 0, .int .i64 0, .int .i64 0, .int .i64 0, .int .i64 0, .int .i64 0, .int .i64 0, .slice none 0 0] 30
              have f2 : Below U0.heap.size U0 (U0.alloc (.cells #[.int .i64 0, .int .u8 0, .int .u8 0, .int .u8 0, .int .u8 0, .int .u8 0, .int .u8 0, .int .u8 0, .int .u8 0, .int .u8 0, .int .u8 0, .int .u8 0, .int .u8 0, .int .u8 0, .int .u8 0, .int .u8 0, .int .u8 0, .int .u8 0, .int .u8 0, .int .u8 0, .int .u8 0, .int .u8 0, .int .u8 0, .int .u8 0, .int .u8 0, .int .u8 0, .int .u8 0, .int .u8 0, .int .u8 0, .int .u8 0, .int .u8 0, .int .u8 0, .int .u8 0, .slice none 0 0, .int .i64 0, .int .i64 0, .int .i64 0, .int .i64 0, .int .i64 0, .int .i64 0, .int .i64 0, .int .i64 0, .slice none 0 0] 30)) := (Below.refl _ _).alloc (Nat.le_refl _) _
              generalize U0.alloc (.cells #[.int .i64 0, .int .u8 0, .int .u8 0, .int .u8 0, .int .u8 0, .int .u8 0, .int .u8 0, .int .u8 0, .int .u8 0, .int .u8 0, .int .u8 0, .int .u8 0, .int .u8 0, .int .u8 0, .int .u8 0, .int .u8 0, .int .u8 0, .int .u8 0, .int .u8 0, .int .u8 0, .int .u8 0, .int .u8 0, .int .u8 0, .int .u8 0, .int .u8 0, .int .u8 0, .int .u8 0, .int .u8 0, .int .u8 0, .int .u8 0, .int .u8 0, .int .u8 0, .int .u8 0, .slice none 0 0, .int .i64 0, .int .i64 0, .int .i64 0, .int .i64 0, .int .i64 0, .int .i64 0, .int .i64 0, .int .i64 0, .slice none 0 0] 30) = V2 at *
              obtain ⟨G, hG⟩ : ∃ G, U0.heap.size = G := ⟨_, rfl⟩
              rw [show Blk V2 U0.heap.size 30 zeroCC = Blk V2 G 30 zeroCC from by rw [hG]] at bG
              have hVG : U0.heap.size ≤ G := by omega
              refine wpP_one ?_
              refine wpP_loud rfl (by rfl) ?_
              intro K hK
              go_simp
              refine (middle_err _ cC KC.out 2 (1 + m) 5 (one_ 8) rfl 2 (one_past CC.out 2 5 (1 + m) (by omega) YES2.out YES5.out) (by decide) V2 (zC.to f2)).mono ?_
              rintro en V1 ⟨v9, rfl, hs, hb⟩
              obtain ⟨vt9, vc9, rfl, ht, hc⟩ := hs [] (fun _ h => by cases h)
              have o9t := ht.one
              have o9c := hc.one
              have I9 := Lib.hid (info_co (vt := vt9) (vc := vc9) (c := cC) KC.out.pre KC.out.bank)
              have L9 : Hid ((coC vt9 vc9 cC).length = 43) := Lib.hid (coC_len (c := cC) KC.out.pre KC.out.bank)
              clear hs ht hc
              refine hK.out _ _ (hb.mono f2.size) ?_
              clear hK K
              try simp only [Act.put, List.setIfInBounds_toArray, List.set_cons_zero, List.set_cons_succ]
              replace bG := bG.to hb
              replace f2 := f2.trans (hb.mono f2.size)
              clear hb
              first | (refine wpP_quiet (v := ?_) rfl (by rfl) ?_ ?_; rotate_left; (· (intro w' hw'; go_simp; try with_reducible rfl)); simp only [Act.put, List.setIfInBounds_toArray, List.set_cons_zero, List.set_cons_succ]) | (refine wpP_skip rfl (by rfl) ?_; simp only [Act.put, List.setIfInBounds_toArray, List.set_cons_zero, List.set_cons_succ])
              first | (refine wpP_quiet (v := ?_) rfl (by rfl) ?_ ?_; rotate_left; (· (intro w' hw'; go_simp; try with_reducible rfl)); simp only [Act.put, List.setIfInBounds_toArray, List.set_cons_zero, List.set_cons_succ]) | (refine wpP_skip rfl (by rfl) ?_; simp only [Act.put, List.setIfInBounds_toArray, List.set_cons_zero, List.set_cons_succ])
              first | (refine wpP_quiet (v := ?_) rfl (by rfl) ?_ ?_; rotate_left; (· (intro w' hw'; go_simp; try with_reducible rfl)); simp only [Act.put, List.setIfInBounds_toArray, List.set_cons_zero, List.set_cons_succ]) | (refine wpP_skip rfl (by rfl) ?_; simp only [Act.put, List.setIfInBounds_toArray, List.set_cons_zero, List.set_cons_succ])
              refine wpP_one ?_
              refine wpP_loud rfl (by rfl) ?_
              intro K hK
              refine wp_store_fld _ _ _ rfl G 0 _ _ (coC vt9 vc9 cC) rfl _ rfl rfl bG (by rw [L9.out]; exact Nat.le_refl _) I9.out (coC_one o9t o9c) ?_
              intro V3 bG3 bu3
              refine hK.out _ _ (below_but bu3 hVG f2.size) ?_
              clear hK K
              try simp only [Act.put, List.setIfInBounds_toArray, List.set_cons_zero, List.set_cons_succ]
              first | (refine wpP_quiet (v := ?_) rfl (by rfl) ?_ ?_; rotate_left; (· (intro w' hw'; go_simp; try with_reducible rfl)); simp only [Act.put, List.setIfInBounds_toArray, List.set_cons_zero, List.set_cons_succ]) | (refine wpP_skip rfl (by rfl) ?_; simp only [Act.put, List.setIfInBounds_toArray, List.set_cons_zero, List.set_cons_succ])
              refine wpP_done ?_
              have f3 := f2.trans (below_but bu3 hVG f2.size)
              have dX := bX.to f3
              have yX := zX.to f3
              have ff := fg.trans (f3.mono fg.size)
              clear f3 f2 bu3 bG3 bG hVG hG
              go_wp2_with fail
              go_ret
              exact ⟨rfl, ff⟩
          · refine wpP_loud rfl (by rfl) ?_
            intro K hK
            go_simp
            refine hK.out _ _ ((Below.refl _ _).alloc (Nat.le_refl _) _) ?_
            clear hK K
            try simp only [Act.put, List.setIfInBounds_toArray, List.set_cons_zero, List.set_cons_succ]
            have bG : Blk (U0.alloc (.cells #[.int .i64 0, .int .u8 0, .int .u8 0, .int .u8 0, .int .u8 0, .int .u8 0, .int .u8 0, .int .u8 0, .int .u8 0, .int .u8 0, .int .u8 0, .int .u8 0, .int .u8 0, .int .u8 0, .int .u8 0, .int .u8 0, .int .u8 0, .int .u8 0, .int .u8 0, .int .u8 0, .int .u8 0, .int .u8 0, .int .u8 0, .int .u8 0, .int .u8 0, .int .u8 0, .int .u8 0, .int .u8 0, .int .u8 0, .int .u8 0, .int .u8 0, .int .u8 0, .int .u8 0, .slice none 0 0, .int .i64 0, .int .i64 0, .int .i64 0, .int .i64 0, .int .i64 0, .int .i64 0, .int .i64 0, .int .i64 0, .slice none 0 0] 30)) U0.heap.size 30 zeroCC := Blk.new U0 #[.int .i64 0, .int .u8 0, .int .u8 0, .int .u8 0, .int .u8 0, .int .u8 0, .int .u8 0, .int .u8 0, .int .u8 0, .int .u8 0, .int .u8 0, .int .u8 0, .int .u8 0, .int .u8 0, .int .u8 0, .int .u8 0, .int .u8 0, .int .u8 0, .int .u8 0, .int .u8 0, .int .u8 0, .int .u8 0, .int .u8 0, .int .u8 0, .int .u8 0, .int .u8 0, .int .u8 0, .int .u8 0, .int .u8 0, .int .u8 0, .int .u8 0, .int .u8 0, .int .u8 0, .slice none 0 0, .int .i64 0, .int .i64 0, .int .i64 0, .int .i64 0, .int .i64 0, .int .i64 0, .int .i64 0, .int .i64 0, .slice none 0 0] 30
            have f2 : Below U0.heap.size U0 (U0.alloc (.cells #[.int .i64 0, .int .u8 0, .int .u8 0, .int .u8 0, .int .u8 0, .int .u8 0, .int .u8 0, .int .u8 0, .int .u8 0, .int .u8 0, .int .u8 0, .int .u8 0, .int .u8 0, .int .u8 0, .int .u8 0, .int .u8 0, .int .u8 0, .int .u8 0, .int .u8 0, .int .u8 0, .int .u8 0, .int .u8 0, .int .u8 0, .int .u8 0, .int .u8 0, .int .u8 0, .int .u8 0, .int .u8 0, .int .u8 0, .int .u8 0, .int .u8 0, .int .u8 0, .int .u8 0, .slice none 0 0, .int .i64 0, .int .i64 0, .int .i64 0, .int .i64 0, .int .i64 0, .int .i64 0, .int .i64 0, .int .i64 0, .slice none 0 0] 30)) := (Below.refl _ _).alloc (Nat.le_refl _) _
            generalize U0.alloc (.cells #[.int .i64 0, .int .u8 0, .int .u8 0, .int .u8 0, .int .u8 0, .int .u8 0, .int .u8 0, .int .u8 0, .int .u8 0, .int .u8 0, .int .u8 0, .int .u8 0, .int .u8 0, .int .u8 0, .int .u8 0, .int .u8 0, .int .u8 0, .int .u8 0, .int .u8 0, .int .u8 0, .int .u8 0, .int .u8 0, .int .u8 0, .int .u8 0, .int .u8 0, .int .u8 0, .int .u8 0, .int .u8 0, .int .u8 0, .int .u8 0, .int .u8 0, .int .u8 0, .int .u8 0, .slice none 0 0, .int .i64 0, .int .i64 0, .int .i64 0, .int .i64 0, .int .i64 0, .int .i64 0, .int .i64 0, .int .i64 0, .slice none 0 0] 30) = V2 at *
            obtain ⟨G, hG⟩ : ∃ G, U0.heap.size = G := ⟨_, rfl⟩
            rw [show Blk V2 U0.heap.size 30 zeroCC = Blk V2 G 30 zeroCC from by rw [hG]] at bG
            have hVG : U0.heap.size ≤ G := by omega
            refine wpP_one ?_
            refine wpP_loud rfl (by rfl) ?_
            intro K hK
            go_simp
            refine (within_capstanlaw17 wh 9 V2 (by omega) (by omega) w_lo w_hi).mono ?_
            rintro e w9 ⟨rfl, rfl⟩
            rw [HM.out]
            refine hK.out _ _ (Below.refl _ _) ?_
            clear hK K
            try simp only [Act.put, List.setIfInBounds_toArray, List.set_cons_zero, List.set_cons_succ]
            first | (refine wpP_quiet (v := ?_) rfl (by rfl) ?_ ?_; rotate_left; (· (intro w' hw'; go_simp; try with_reducible rfl)); simp only [Act.put, List.setIfInBounds_toArray, List.set_cons_zero, List.set_cons_succ]) | (refine wpP_skip rfl (by rfl) ?_; simp only [Act.put, List.setIfInBounds_toArray, List.set_cons_zero, List.set_cons_succ])
            refine wpP_one ?_
            refine wpP_loud rfl (by rfl) ?_
            intro K hK
            go_simp
            refine (middle_err _ cC KC.out 2 (1 + m) 5 (one_ 8) rfl 2 (one_past CC.out 2 5 (1 + m) (by omega) YES2.out YES5.out) (by decide) V2 (zC.to f2)).mono ?_
            rintro en V1 ⟨v9, rfl, hs, hb⟩
            obtain ⟨vt9, vc9, rfl, ht, hc⟩ := hs [] (fun _ h => by cases h)
            have o9t := ht.one
            have o9c := hc.one
            have I9 := Lib.hid (info_co (vt := vt9) (vc := vc9) (c := cC) KC.out.pre KC.out.bank)
            have L9 : Hid ((coC vt9 vc9 cC).length = 43) := Lib.hid (coC_len (c := cC) KC.out.pre KC.out.bank)
            clear hs ht hc
            refine hK.out _ _ (hb.mono f2.size) ?_
            clear hK K
            try simp only [Act.put, List.setIfInBounds_toArray, List.set_cons_zero, List.set_cons_succ]
            replace bG := bG.to hb
            replace f2 := f2.trans (hb.mono f2.size)
            clear hb
            first | (refine wpP_quiet (v := ?_) rfl (by rfl) ?_ ?_; rotate_left; (· (intro w' hw'; go_simp; try with_reducible rfl)); simp only [Act.put, List.setIfInBounds_toArray, List.set_cons_zero, List.set_cons_succ]) | (refine wpP_skip rfl (by rfl) ?_; simp only [Act.put, List.setIfInBounds_toArray, List.set_cons_zero, List.set_cons_succ])
            first | (refine wpP_quiet (v := ?_) rfl (by rfl) ?_ ?_; rotate_left; (· (intro w' hw'; go_simp; try with_reducible rfl)); simp only [Act.put, List.setIfInBounds_toArray, List.set_cons_zero, List.set_cons_succ]) | (refine wpP_skip rfl (by rfl) ?_; simp only [Act.put, List.setIfInBounds_toArray, List.set_cons_zero, List.set_cons_succ])
            first | (refine wpP_quiet (v := ?_) rfl (by rfl) ?_ ?_; rotate_left; (· (intro w' hw'; go_simp; try with_reducible rfl)); simp only [Act.put, List.setIfInBounds_toArray, List.set_cons_zero, List.set_cons_succ]) | (refine wpP_skip rfl (by rfl) ?_; simp only [Act.put, List.setIfInBounds_toArray, List.set_cons_zero, List.set_cons_succ])
            refine wpP_one ?_
            refine wpP_loud rfl (by rfl) ?_
            intro K hK
            refine wp_store_fld _ _ _ rfl G 0 _ _ (coC vt9 vc9 cC) rfl _ rfl rfl bG (by rw [L9.out]; exact Nat.le_refl _) I9.out (coC_one o9t o9c) ?_
            intro V3 bG3 bu3
            refine hK.out _ _ (below_but bu3 hVG f2.size) ?_
            clear hK K
            try simp only [Act.put, List.setIfInBounds_toArray, List.set_cons_zero, List.set_cons_succ]
            first | (refine wpP_quiet (v := ?_) rfl (by rfl) ?_ ?_; rotate_left; (· (intro w' hw'; go_simp; try with_reducible rfl)); simp only [Act.put, List.setIfInBounds_toArray, List.set_cons_zero, List.set_cons_succ]) | (refine wpP_skip rfl (by rfl) ?_; simp only [Act.put, List.setIfInBounds_toArray, List.set_cons_zero, List.set_cons_succ])
            refine wpP_done ?_
            have f3 := f2.trans (below_but bu3 hVG f2.size)
            have dX := bX.to f3
            have yX := zX.to f3
            have ff := fg.trans (f3.mono fg.size)
            clear f3 f2 bu3 bG3 bG hVG hG
            go_wp2_with fail
            go_ret
            exact ⟨rfl, ff⟩
      · by_cases hr7 : 7 < r
        · have t1 : ¬ p > 7 := h7
          have t1d : decide (7 < p) = false := decide_eq_false h7
          have t3 : (p == 5) = false := by simpa using h5
          have t3x : (p != 5) = true := by simpa using h5
          have t4 : (p == 2) = false := by simpa using h2
          have t4x : (p != 2) = true := by simpa using h2
          have t2 : r > 7 := hr7
          have t2d : decide (7 < r) = true := decide_eq_true hr7
          go_wp2_with (first
            | (refine wpl_load_fld (by rfl) _ _ rfl C 0 rfl (coC vt2 vc2 cC) _ dC.range Try.underlying30 rfl I2.out ?_)
            | (refine wpl_build (by rfl) _ _ rfl _ (by exact builtC7) ?_))
          refine (middle_err _ cC KC.out p 0 r (one_ 7) rfl 1 (by rw [OC.out]; exact ite_same (by omega)) (by decide) w4 yC).mono ?_
          rintro en wy3 ⟨v3, rfl, hs, hb⟩
          obtain ⟨vt3, vc3, rfl, ht, hc⟩ := hs [] (fun _ h => by cases h)
          have o3t := ht.one
          have o3c := hc.one
          have I3 := Lib.hid (info_co (vt := vt3) (vc := vc3) (c := cC) KC.out.pre KC.out.bank)
          have L3 : Hid ((coC vt3 vc3 cC).length = 43) := Lib.hid (coC_len (c := cC) KC.out.pre KC.out.bank)
          have x3 : CoX [] wy3 (.agg (coC vt3 vc3 cC).toArray) cC := ⟨vt3, vc3, rfl, ht, hc⟩
          clear hs ht hc
          replace dC := dC.to hb
          replace yC := yC.to hb
          replace ff := ff.trans (hb.mono ff.size)
          clear hb
          go_wp2_with (first
            | (refine wpl_store_new rfl _ _ _ rfl 30 _ (coC vt3 vc3 cC) rfl rfl (by rw [L3.out]; rfl) I3.out (coC_one o3t o3c) ?_
               intro wz3 dD hz
               simp only [Act.put, List.setIfInBounds_toArray, List.set_cons_zero, List.set_cons_succ]
               replace dC := dC.to hz
               replace yC := yC.to hz
               replace ff := ff.trans (hz.mono ff.size)
               have yD := x3.to hz
               clear hz x3)
            | (refine wpl_load_fld (by rfl) _ _ rfl C 0 rfl (coC vt2 vc2 cC) _ dC.range Try.underlying30 rfl I2.out ?_)
            | (refine wpl_load_fld (by rfl) _ _ rfl wy3.heap.size 0 rfl (coC vt3 vc3 cC) _ dD.range Try.underlying30 rfl I3.out ?_))
          refine (sameC_any _ _ cC KC.out wz3 yC yD).mono ?_
          rintro e wq ⟨rfl, hb⟩
          clear dD yD
          replace dC := dC.to hb
          replace yC := yC.to hb
          replace ff := ff.trans (hb.mono ff.size)
          clear hb
          go_wp2_with (first
            | (refine wpl_load_fld (by rfl) _ _ rfl C 0 rfl (coC vt2 vc2 cC) _ dC.range Try.underlying30 rfl I2.out ?_)
            | (refine wpl_build (by rfl) _ _ rfl _ (by exact builtC7) ?_))
          refine (middle_ok _ cC KC.out 2 5 (one_ 7) rfl mvX CC.out 0 mvSu rfl (mv_hne _) (by decide) (mv_hsb _) BC.out (by decide) (by decide) (by rw [OC.out, if_neg (by intro h; rcases h with h | h; exact h YES2.out; exact h YES5.out), if_neg (by decide), if_pos rfl]; rfl) wq yC).mono ?_
          rw [R1.out]
          rintro en wy4 ⟨v4, rfl, hs, hb⟩
          obtain ⟨vt4, vc4, rfl, ht, hc⟩ := hs [] (fun _ h => by cases h)
          have o4t := ht.one
          have o4c := hc.one
          have I4 := Lib.hid (info_co (vt := vt4) (vc := vc4) (c := cM) KM.out.pre KM.out.bank)
          have L4 : Hid ((coC vt4 vc4 cM).length = 43) := Lib.hid (coC_len (c := cM) KM.out.pre KM.out.bank)
          have x4 : CoX [] wy4 (.agg (coC vt4 vc4 cM).toArray) cM := ⟨vt4, vc4, rfl, ht, hc⟩
          clear hs ht hc
          replace dC := dC.to hb
          replace yC := yC.to hb
          replace ff := ff.trans (hb.mono ff.size)
          clear hb
          go_wp2_with (first
            | (refine wpl_store_new rfl _ _ _ rfl 30 _ (coC vt4 vc4 cM) rfl rfl (by rw [L4.out]; rfl) I4.out (coC_one o4t o4c) ?_
               intro wz4 dX hz
               simp only [Act.put, List.setIfInBounds_toArray, List.set_cons_zero, List.set_cons_succ]
               replace dC := dC.to hz
               replace yC := yC.to hz
               replace ff := ff.trans (hz.mono ff.size)
               have yX := x4.to hz
               clear hz x4)
            | (refine wpl_load_fld (by rfl) _ _ rfl wy4.heap.size 0 rfl (coC vt4 vc4 cM) _ dX.range Try.underlying30 rfl I4.out ?_))
          refine (side_err _ cM KM.out p 0 true (⟨hp10.1, by omega⟩) 2 (by rw [PM.out, if_neg (by omega)]) (by decide) wz4 yX).mono ?_
          rintro en wy5 ⟨v5, rfl, hs, hb⟩
          obtain ⟨vt5, vc5, rfl, ht, hc⟩ := hs [] (fun _ h => by cases h)
          have o5t := ht.one
          have o5c := hc.one
          have I5 := Lib.hid (info_co (vt := vt5) (vc := vc5) (c := cM) KM.out.pre KM.out.bank)
          have L5 : Hid ((coC vt5 vc5 cM).length = 43) := Lib.hid (coC_len (c := cM) KM.out.pre KM.out.bank)
          have x5 : CoX [] wy5 (.agg (coC vt5 vc5 cM).toArray) cM := ⟨vt5, vc5, rfl, ht, hc⟩
          clear hs ht hc
          replace dC := dC.to hb
          replace yC := yC.to hb
          replace dX := dX.to hb
          replace yX := yX.to hb
          replace ff := ff.trans (hb.mono ff.size)
          clear hb
          go_wp2_with (first
            | (refine wpl_store_new rfl _ _ _ rfl 30 _ (coC vt5 vc5 cM) rfl rfl (by rw [L5.out]; rfl) I5.out (coC_one o5t o5c) ?_
               intro wz5 dY hz
               simp only [Act.put, List.setIfInBounds_toArray, List.set_cons_zero, List.set_cons_succ]
               replace dC := dC.to hz
               replace yC := yC.to hz
               replace dX := dX.to hz
               replace yX := yX.to hz
               replace ff := ff.trans (hz.mono ff.size)
               have yY := x5.to hz
               clear hz x5)
            | (refine wpl_load_fld (by rfl) _ _ rfl wy4.heap.size 0 rfl (coC vt4 vc4 cM) _ dX.range Try.underlying30 rfl I4.out ?_)
            | (refine wpl_build (by rfl) _ _ rfl _ (by exact builtC8) ?_))
          refine (middle_ok _ cM KM.out 2 5 (one_ 8) rfl mvX2 CM.out 0 mvSu2 rfl (mv_hne _) (by decide) (mv_hsb _) BM.out (by decide) (by decide) (by rw [OM.out, if_neg (by intro h; rcases h with h | h; exact h YES2.out; exact h YES5.out), if_neg (by decide), if_pos rfl]; rfl) wz5 yX).mono ?_
          rw [R2.out]
          rintro en wy6 ⟨v6, rfl, hs, hb⟩
          obtain ⟨vt6, vc6, rfl, ht, hc⟩ := hs [] (fun _ h => by cases h)
          have o6t := ht.one
          have o6c := hc.one
          have I6 := Lib.hid (info_co (vt := vt6) (vc := vc6) (c := cM) KM.out.pre KM.out.bank)
          have L6 : Hid ((coC vt6 vc6 cM).length = 43) := Lib.hid (coC_len (c := cM) KM.out.pre KM.out.bank)
          have x6 : CoX [] wy6 (.agg (coC vt6 vc6 cM).toArray) cM := ⟨vt6, vc6, rfl, ht, hc⟩
          clear hs ht hc
          replace dC := dC.to hb
          replace yC := yC.to hb
          replace dX := dX.to hb
          replace yX := yX.to hb
          replace dY := dY.to hb
          replace yY := yY.to hb
          replace ff := ff.trans (hb.mono ff.size)
          clear hb
          go_wp2_with (first
            | (refine wpl_store_new rfl _ _ _ rfl 30 _ (coC vt6 vc6 cM) rfl rfl (by rw [L6.out]; rfl) I6.out (coC_one o6t o6c) ?_
               intro wz6 dG hz
               simp only [Act.put, List.setIfInBounds_toArray, List.set_cons_zero, List.set_cons_succ]
               replace dC := dC.to hz
               replace yC := yC.to hz
               replace dX := dX.to hz
               replace yX := yX.to hz
               replace dY := dY.to hz
               replace yY := yY.to hz
               replace ff := ff.trans (hz.mono ff.size)
               have yG := x6.to hz
               clear hz x6
               clear dG yG)
            | (refine wpl_load_fld (by rfl) _ _ rfl C 0 rfl (coC vt2 vc2 cC) _ dC.range Try.underlying30 rfl I2.out ?_))
          refine (side_ok _ cC KC.out 5 true YES5.out mvX CC.out 0 mvSu rfl (mv_hne _) (by decide) (mv_hsb _) BC.out (by decide) (by decide) (by decide) (by decide) (by decide) (by rw [PC.out, if_pos rfl]; rfl) wz6 yC).mono ?_
          rw [R3.out]
          rintro en wy7 ⟨v7, rfl, hs, hb⟩
          obtain ⟨vt7, vc7, rfl, ht, hc⟩ := hs [] (fun _ h => by cases h)
          have o7t := ht.one
          have o7c := hc.one
          have I7 := Lib.hid (info_co (vt := vt7) (vc := vc7) (c := cC) KC.out.pre KC.out.bank)
          have L7 : Hid ((coC vt7 vc7 cC).length = 43) := Lib.hid (coC_len (c := cC) KC.out.pre KC.out.bank)
          have x7 : CoX [] wy7 (.agg (coC vt7 vc7 cC).toArray) cC := ⟨vt7, vc7, rfl, ht, hc⟩
          clear hs ht hc
          replace dC := dC.to hb
          replace yC := yC.to hb
          replace dX := dX.to hb
          replace yX := yX.to hb
          replace dY := dY.to hb
          replace yY := yY.to hb
          replace ff := ff.trans (hb.mono ff.size)
          clear hb
          go_wp2_with (first
            | (refine wpl_store_new rfl _ _ _ rfl 30 _ (coC vt7 vc7 cC) rfl rfl (by rw [L7.out]; rfl) I7.out (coC_one o7t o7c) ?_
               intro wz7 dH hz
               simp only [Act.put, List.setIfInBounds_toArray, List.set_cons_zero, List.set_cons_succ]
               replace dC := dC.to hz
               replace yC := yC.to hz
               replace dX := dX.to hz
               replace yX := yX.to hz
               replace dY := dY.to hz
               replace yY := yY.to hz
               replace ff := ff.trans (hz.mono ff.size)
               have yH := x7.to hz
               clear hz x7
               clear dH yH))
          have w1m : IntKind.i64.wrap (1 + m) = 1 + m := IntWalk.i64_in _ (by omega)
          refine wp_region_P (.take 0 (.take 1 (.take 4 (.two 2 (.take 3 (.two 5 (.take 6 (.take 7 (.take 8 (.one 9 (.one 10 (.take 11 .done)))))) 9 (.one 5 (.take 6 (.take 7 (.take 8 (.one 10 (.take 11 .done)))))))) 9 (.one 2 (.take 3 (.one 5 (.take 6 (.take 7 (.take 8 (.one 10 (.take 11 .done)))))))))))) (Below wz7.heap.size) (by kernel_rfl) (by kernel_rfl) (by kernel_rfl) (by decide +kernel) (Below.refl _) (fun _ _ _ => Below.trans) (by intro d v c a w h; first | (cases d <;> exact h) | exact absurd h.1 (by simp)) ?_
          have bC : Blk wz7.drew C 30 (coC vt2 vc2 cC) := dC
          have bX : Blk wz7.drew wy4.heap.size 30 (coC vt4 vc4 cM) := dX
          have bY : Blk wz7.drew wy5.heap.size 30 (coC vt5 vc5 cM) := dY
          have zC := yC.drew
          have zX := yX.drew
          have zY := yY.drew
          have fg := ff.drew
          clear dC yC dX yX dY yY ff
          have hsz : wz7.heap.size = wz7.drew.heap.size := rfl
          rw [hsz]
          clear hsz
          generalize wz7.drew = U0 at *
          refine wpP_load rfl (by rfl) _ _ rfl C 0 rfl (coC vt2 vc2 cC) _ (fun w' hw' => (bC.below hw' bC.lt).range) Try.underlying30 rfl I2.out ?_; simp only [Act.put, List.setIfInBounds_toArray, List.set_cons_zero, List.set_cons_succ]
          first | (refine wpP_quiet (v := ?_) rfl (by rfl) ?_ ?_; rotate_left; (· (intro w' hw'; go_simp; try with_reducible rfl)); simp only [Act.put, List.setIfInBounds_toArray, List.set_cons_zero, List.set_cons_succ]) | (refine wpP_skip rfl (by rfl) ?_; simp only [Act.put, List.setIfInBounds_toArray, List.set_cons_zero, List.set_cons_succ])
          refine wpP_build rfl (by rfl) _ _ rfl _ (by exact builtC8) ?_; simp only [Act.put, List.setIfInBounds_toArray, List.set_cons_zero, List.set_cons_succ]
          refine wpP_two ?_ ?_
          · refine wpP_loud rfl (by rfl) ?_
            intro K hK
            go_simp
            refine (within_capstanlaw17 wh 9 U0 (by omega) (by omega) w_lo w_hi).mono ?_
            rintro e w9 ⟨rfl, rfl⟩
            rw [HM.out]
            refine hK.out _ _ (Below.refl _ _) ?_
            clear hK K
            try simp only [Act.put, List.setIfInBounds_toArray, List.set_cons_zero, List.set_cons_succ]
            first | (refine wpP_quiet (v := ?_) rfl (by rfl) ?_ ?_; rotate_left; (· (intro w' hw'; go_simp; try with_reducible rfl)); simp only [Act.put, List.setIfInBounds_toArray, List.set_cons_zero, List.set_cons_succ]) | (refine wpP_skip rfl (by rfl) ?_; simp only [Act.put, List.setIfInBounds_toArray, List.set_cons_zero, List.set_cons_succ])
            refine wpP_two ?_ ?_
            · refine wpP_loud rfl (by rfl) ?_
              intro K hK
              go_simp
              refine (middle_err _ cC KC.out 2 (1 + m) 5 (one_ 8) rfl 2 (one_past CC.out 2 5 (1 + m) (by omega) YES2.out YES5.out) (by decide) U0 zC).mono ?_
              rintro en V1 ⟨v9, rfl, hs, hb⟩
              obtain ⟨vt9, vc9, rfl, ht, hc⟩ := hs [] (fun _ h => by cases h)
              have o9t := ht.one
              have o9c := hc.one
              have I9 := Lib.hid (info_co (vt := vt9) (vc := vc9) (c := cC) KC.out.pre KC.out.bank)
              have L9 : Hid ((coC vt9 vc9 cC).length = 43) := Lib.hid (coC_len (c := cC) KC.out.pre KC.out.bank)
              clear hs ht hc
              refine hK.out _ _ hb ?_
              clear hK K
              try simp only [Act.put, List.setIfInBounds_toArray, List.set_cons_zero, List.set_cons_succ]
              have f2 : Below U0.heap.size U0 V1 := hb
              clear hb
              first | (refine wpP_quiet (v := ?_) rfl (by rfl) ?_ ?_; rotate_left; (· (intro w' hw'; go_simp; try with_reducible rfl)); simp only [Act.put, List.setIfInBounds_toArray, List.set_cons_zero, List.set_cons_succ]) | (refine wpP_skip rfl (by rfl) ?_; simp only [Act.put, List.setIfInBounds_toArray, List.set_cons_zero, List.set_cons_succ])
              first | (refine wpP_quiet (v := ?_) rfl (by rfl) ?_ ?_; rotate_left; (· (intro w' hw'; go_simp; try with_reducible rfl)); simp only [Act.put, List.setIfInBounds_toArray, List.set_cons_zero, List.set_cons_succ]) | (refine wpP_skip rfl (by rfl) ?_; simp only [Act.put, List.setIfInBounds_toArray, List.set_cons_zero, List.set_cons_succ])
              first | (refine wpP_quiet (v := ?_) rfl (by rfl) ?_ ?_; rotate_left; (· (intro w' hw'; go_simp; try with_reducible rfl)); simp only [Act.put, List.setIfInBounds_toArray, List.set_cons_zero, List.set_cons_succ]) | (refine wpP_skip rfl (by rfl) ?_; simp only [Act.put, List.setIfInBounds_toArray, List.set_cons_zero, List.set_cons_succ])
              refine wpP_one ?_
              refine wpP_loud rfl (by rfl) ?_
              intro K hK
              go_simp
              refine hK.out _ _ ((Below.refl _ _).alloc (by exact f2.size) _) ?_
              clear hK K
              try simp only [Act.put, List.setIfInBounds_toArray, List.set_cons_zero, List.set_cons_succ]
              have bG : Blk (V1.alloc (.cells #[.int .i64 0, .int .u8 0, .int .u8 0, .int .u8 0, .int .u8 0, .int .u8 0, .int .u8 0, .int .u8 0, .int .u8 0, .int .u8 0, .int .u8 0, .int .u8 0, .int .u8 0, .int .u8 0, .int .u8 0, .int .u8 0, .int .u8 0, .int .u8 0, .int .u8 0, .int .u8 0, .int .u8 0, .int .u8 0, .int .u8 0, .int .u8 0, .int .u8 0, .int .u8 0, .int .u8 0, .int .u8 0, .int .u8 0, .int .u8 0, .int .u8 0, .int .u8 0, .int .u8 0, .slice none 0 0, .int .i64 0, .int .i64 0, .int .i64 0, .int .i64 0, .int .i64 0, .int .i64 0, .int .i64 0, .int .i64 0, .slice none 0 0] 30)) V1.heap.size 30 zeroCC := Blk.new V1 #[.int .i64 0, .int .u8 0, .int .u8 0, .int .u8 0, .int .u8 0, .int .u8 0, .int .u8 0, .int .u8 0, .int .u8 0, .int .u8 0, .int .u8 0, .int .u8 0, .int .u8 0, .int .u8 0, .int .u8 0, .int .u8 0, .int .u8 0, .int .u8 0, .int .u8 0, .int .u8 0, .int .u8 0, .int .u8 0, .int .u8 0, .int .u8 0, .int .u8 0, .int .u8 0, .int .u8 0, .int .u8 0, .int .u8 0, .int .u8 0, .int .u8 0, .int .u8 0, .int .u8 0, .slice none 0 0, .int .i64 0, .int .i64 0, .int .i64 0, .int .i64 0, .int .i64 0, .int .i64 0, .int .i64 0, .int .i64 0, .slice none 0 0] 30
              have hVG : U0.heap.size ≤ V1.heap.size := f2.size
              replace f2 : Below U0.heap.size U0 (V1.alloc (.cells #[.int .i64 0, .int .u8 0, .int .u8 0, .int .u8 0, .int .u8 0, .int .u8 0, .int .u8 0, .int .u8 0, .int .u8 0, .int .u8 0, .int .u8 0, .int .u8 0, .int .u8 0, .int .u8 0, .int .u8 0, .int .u8 0, .int .u8 0, .int .u8 0, .int .u8 0, .int .u8 0, .int .u8 0, .int .u8 0, .int .u8 0, .int .u8 0, .int .u8 0, .int .u8 0, .int .u8 0, .int .u8 0, .int .u8 0, .int .u8 0, .int .u8 0, .int .u8 0, .int .u8 0, .slice none 0 0, .int .i64 0, .int .i64 0, .int .i64 0, .int .i64 0, .int .i64 0, .int .i64 0, .int .i64 0, .int .i64 0, .slice none 0 0] 30)) := f2.alloc (by exact f2.size) _
              generalize V1.alloc (.cells #[.int .i64 0, .int .u8 0, .int .u8 0, .int .u8 0, .int .u8 0, .int .u8 0, .int .u8 0, .int .u8 0, .int .u8 0, .int .u8 0, .int .u8 0, .int .u8 0, .int .u8 0, .int .u8 0, .int .u8 0, .int .u8 0, .int .u8 0, .int .u8 0, .int .u8 0, .int .u8 0, .int .u8 0, .int .u8 0, .int .u8 0, .int .u8 0, .int .u8 0, .int .u8 0, .int .u8 0, .int .u8 0, .int .u8 0, .int .u8 0, .int .u8 0, .int .u8 0, .int .u8 0, .slice none 0 0, .int .i64 0, .int .i64 0, .int .i64 0, .int .i64 0, .int .i64 0, .int .i64 0, .int .i64 0, .int .i64 0, .slice none 0 0] 30) = V2 at *
              generalize hG : V1.heap.size = G at *
              refine wpP_one ?_
              refine wpP_loud rfl (by rfl) ?_
              intro K hK
              refine wp_store_fld _ _ _ rfl G 0 _ _ (coC vt9 vc9 cC) rfl _ rfl rfl bG (by rw [L9.out]; exact Nat.le_refl _) I9.out (coC_one o9t o9c) ?_
              intro V3 bG3 bu3
              refine hK.out _ _ (below_but bu3 hVG f2.size) ?_
              clear hK K
              try simp only [Act.put, List.setIfInBounds_toArray, List.set_cons_zero, List.set_cons_succ]
              first | (refine wpP_quiet (v := ?_) rfl (by rfl) ?_ ?_; rotate_left; (· (intro w' hw'; go_simp; try with_reducible rfl)); simp only [Act.put, List.setIfInBounds_toArray, List.set_cons_zero, List.set_cons_succ]) | (refine wpP_skip rfl (by rfl) ?_; simp only [Act.put, List.setIfInBounds_toArray, List.set_cons_zero, List.set_cons_succ])
              refine wpP_done ?_
              have f3 := f2.trans (below_but bu3 hVG f2.size)
              have dX := bX.to f3
              have dY := bY.to f3
              have yX := zX.to f3
              have yY := zY.to f3
              have ff := fg.trans (f3.mono fg.size)
              clear f3 f2 bu3 bG3 bG hVG hG
              go_wp2_with (first
                | (refine wpl_load_fld (by rfl) _ _ rfl wy4.heap.size 0 rfl (coC vt4 vc4 cM) _ dX.range Try.underlying30 rfl I4.out ?_)
                | (refine wpl_load_fld (by rfl) _ _ rfl wy5.heap.size 0 rfl (coC vt5 vc5 cM) _ dY.range Try.underlying30 rfl I5.out ?_))
              refine (sameC_any _ _ cM KM.out V3 yX yY).mono ?_
              rintro e wq ⟨rfl, hb⟩
              replace ff := ff.trans (hb.mono ff.size)
              go_wp2_with fail
              go_ret
              exact ⟨rfl, ff⟩
            · refine wpP_loud rfl (by rfl) ?_
              intro K hK
              go_simp
              refine hK.out _ _ ((Below.refl _ _).alloc (Nat.le_refl _) _) ?_
              clear hK K
              try simp only [Act.put, List.setIfInBounds_toArray, List.set_cons_zero, List.set_cons_succ]
              have bG : Blk (U0.alloc (.cells #[.int .i64 0, .int .u8 0, .int .u8 0, .int .u8 0, .int .u8 0, .int .u8 0, .int .u8 0, .int .u8 0, .int .u8 0, .int .u8 0, .int .u8 0, .int .u8 0, .int .u8 0, .int .u8 0, .int .u8 0, .int .u8 0, .int .u8 0, .int .u8 0, .int .u8 0, .int .u8 0, .int .u8 0, .int .u8 0, .int .u8 0, .int .u8 0, .int .u8 0, .int .u8 0, .int .u8 0, .int .u8 0, .int .u8 0, .int .u8 0, .int .u8 0, .int .u8 0, .int .u8 0, .slice none 0 0, .int .i64 0, .int .i64 0, .int .i64 0, .int .i64 0, .int .i64 0, .int .i64 0, .int .i64 0, .int .i64 0, .slice none 0 0] 30)) U0.heap.size 30 zeroCC := Blk.new U0 #[.int .i64 0, .int .u8 0, .int .u8 0, .int .u8 0, .int .u8 0, .int .u8 0, .int .u8 0, .int .u8 0, .int .u8 0, .int .u8 0, .int .u8 0, .int .u8 0, .int .u8 0, .int .u8 0, .int .u8 0, .int .u8 0, .int .u8 0, .int .u8 0, .int .u8 0, .int .u8 0, .int .u8 0, .int .u8 0, .int .u8 0, .int .u8 0, .int .u8 0, .int .u8 0, .int .u8 0, .int .u8 0, .int .u8 0, .int .u8 0, .int .u8 0, .int .u8 0, .int .u8 0, .slice none 0 0, .int .i64 0, .int .i64 0, .int .i64 0, .int .i64 0, .int .i64 0, .int .i64 0, .int .i64 0, .int .i64 0, .slice none 0 0] 30
              have f2 : Below U0.heap.size U0 (U0.alloc (.cells #[.int .i64 0, .int .u8 0, .int .u8 0, .int .u8 0, .int .u8 0, .int .u8 0, .int .u8 0, .int .u8 0, .int .u8 0, .int .u8 0, .int .u8 0, .int .u8 0, .int .u8 0, .int .u8 0, .int .u8 0, .int .u8 0, .int .u8 0, .int .u8 0, .int .u8 0, .int .u8 0, .int .u8 0, .int .u8 0, .int .u8 0, .int .u8 0, .int .u8 0, .int .u8 0, .int .u8 0, .int .u8 0, .int .u8 0, .int .u8 0, .int .u8 0, .int .u8 0, .int .u8 0, .slice none 0 0, .int .i64 0, .int .i64 0, .int .i64 0, .int .i64 0, .int .i64 0, .int .i64 0, .int .i64 0, .int .i64 0, .slice none 0 0] 30)) := (Below.refl _ _).alloc (Nat.le_refl _) _
              generalize U0.alloc (.cells #[.int .i64 0, .int .u8 0, .int .u8 0, .int .u8 0, .int .u8 0, .int .u8 0, .int .u8 0, .int .u8 0, .int .u8 0, .int .u8 0, .int .u8 0, .int .u8 0, .int .u8 0, .int .u8 0, .int .u8 0, .int .u8 0, .int .u8 0, .int .u8 0, .int .u8 0, .int .u8 0, .int .u8 0, .int .u8 0, .int .u8 0, .int .u8 0, .int .u8 0, .int .u8 0, .int .u8 0, .int .u8 0, .int .u8 0, .int .u8 0, .int .u8 0, .int .u8 0, .int .u8 0, .slice none 0 0, .int .i64 0, .int .i64 0, .int .i64 0, .int .i64 0, .int .i64 0, .int .i64 0, .int .i64 0, .int .i64 0, .slice none 0 0] 30) = V2 at *
              obtain ⟨G, hG⟩ : ∃ G, U0.heap.size = G := ⟨_, rfl⟩
              rw [show Blk V2 U0.heap.size 30 zeroCC = Blk V2 G 30 zeroCC from by rw [hG]] at bG
              have hVG : U0.heap.size ≤ G := by omega
              refine wpP_one ?_
              refine wpP_loud rfl (by rfl) ?_
              intro K hK
              go_simp
              refine (middle_err _ cC KC.out 2 (1 + m) 5 (one_ 8) rfl 2 (one_past CC.out 2 5 (1 + m) (by omega) YES2.out YES5.out) (by decide) V2 (zC.to f2)).mono ?_
              rintro en V1 ⟨v9, rfl, hs, hb⟩
              obtain ⟨vt9, vc9, rfl, ht, hc⟩ := hs [] (fun _ h => by cases h)
              have o9t := ht.one
              have o9c := hc.one
              have I9 := Lib.hid (info_co (vt := vt9) (vc := vc9) (c := cC) KC.out.pre KC.out.bank)
              have L9 : Hid ((coC vt9 vc9 cC).length = 43) := Lib.hid (coC_len (c := cC) KC.out.pre KC.out.bank)
              clear hs ht hc
              refine hK.out _ _ (hb.mono f2.size) ?_
              clear hK K
              try simp only [Act.put, List.setIfInBounds_toArray, List.set_cons_zero, List.set_cons_succ]
              replace bG := bG.to hb
              replace f2 := f2.trans (hb.mono f2.size)
              clear hb
              first | (refine wpP_quiet (v := ?_) rfl (by rfl) ?_ ?_; rotate_left; (· (intro w' hw'; go_simp; try with_reducible rfl)); simp only [Act.put, List.setIfInBounds_toArray, List.set_cons_zero, List.set_cons_succ]) | (refine wpP_skip rfl (by rfl) ?_; simp only [Act.put, List.setIfInBounds_toArray, List.set_cons_zero, List.set_cons_succ])
              first | (refine wpP_quiet (v := ?_) rfl (by rfl) ?_ ?_; rotate_left; (· (intro w' hw'; go_simp; try with_reducible rfl)); simp only [Act.put, List.setIfInBounds_toArray, List.set_cons_zero, List.set_cons_succ]) | (refine wpP_skip rfl (by rfl) ?_; simp only [Act.put, List.setIfInBounds_toArray, List.set_cons_zero, List.set_cons_succ])
              first | (refine wpP_quiet (v := ?_) rfl (by rfl) ?_ ?_; rotate_left; (· (intro w' hw'; go_simp; try with_reducible rfl)); simp only [Act.put, List.setIfInBounds_toArray, List.set_cons_zero, List.set_cons_succ]) | (refine wpP_skip rfl (by rfl) ?_; simp only [Act.put, List.setIfInBounds_toArray, List.set_cons_zero, List.set_cons_succ])
              refine wpP_one ?_
              refine wpP_loud rfl (by rfl) ?_
              intro K hK
              refine wp_store_fld _ _ _ rfl G 0 _ _ (coC vt9 vc9 cC) rfl _ rfl rfl bG (by rw [L9.out]; exact Nat.le_refl _) I9.out (coC_one o9t o9c) ?_
              intro V3 bG3 bu3
              refine hK.out _ _ (below_but bu3 hVG f2.size) ?_
              clear hK K
              try simp only [Act.put, List.setIfInBounds_toArray, List.set_cons_zero, List.set_cons_succ]
              first | (refine wpP_quiet (v := ?_) rfl (by rfl) ?_ ?_; rotate_left; (· (intro w' hw'; go_simp; try with_reducible rfl)); simp only [Act.put, List.setIfInBounds_toArray, List.set_cons_zero, List.set_cons_succ]) | (refine wpP_skip rfl (by rfl) ?_; simp only [Act.put, List.setIfInBounds_toArray, List.set_cons_zero, List.set_cons_succ])
              refine wpP_done ?_
              have f3 := f2.trans (below_but bu3 hVG f2.size)
              have dX := bX.to f3
              have dY := bY.to f3
              have yX := zX.to f3
              have yY := zY.to f3
              have ff := fg.trans (f3.mono fg.size)
              clear f3 f2 bu3 bG3 bG hVG hG
              go_wp2_with (first
                | (refine wpl_load_fld (by rfl) _ _ rfl wy4.heap.size 0 rfl (coC vt4 vc4 cM) _ dX.range Try.underlying30 rfl I4.out ?_)
                | (refine wpl_load_fld (by rfl) _ _ rfl wy5.heap.size 0 rfl (coC vt5 vc5 cM) _ dY.range Try.underlying30 rfl I5.out ?_))
              refine (sameC_any _ _ cM KM.out V3 yX yY).mono ?_
              rintro e wq ⟨rfl, hb⟩
              replace ff := ff.trans (hb.mono ff.size)
              go_wp2_with fail
              go_ret
              exact ⟨rfl, ff⟩
          · refine wpP_loud rfl (by rfl) ?_
            intro K hK
            go_simp
            refine hK.out _ _ ((Below.refl _ _).alloc (Nat.le_refl _) _) ?_
            clear hK K
            try simp only [Act.put, List.setIfInBounds_toArray, List.set_cons_zero, List.set_cons_succ]
            have bG : Blk (U0.alloc (.cells #[.int .i64 0, .int .u8 0, .int .u8 0, .int .u8 0, .int .u8 0, .int .u8 0, .int .u8 0, .int .u8 0, .int .u8 0, .int .u8 0, .int .u8 0, .int .u8 0, .int .u8 0, .int .u8 0, .int .u8 0, .int .u8 0, .int .u8 0, .int .u8 0, .int .u8 0, .int .u8 0, .int .u8 0, .int .u8 0, .int .u8 0, .int .u8 0, .int .u8 0, .int .u8 0, .int .u8 0, .int .u8 0, .int .u8 0, .int .u8 0, .int .u8 0, .int .u8 0, .int .u8 0, .slice none 0 0, .int .i64 0, .int .i64 0, .int .i64 0, .int .i64 0, .int .i64 0, .int .i64 0, .int .i64 0, .int .i64 0, .slice none 0 0] 30)) U0.heap.size 30 zeroCC := Blk.new U0 #[.int .i64 0, .int .u8 0, .int .u8 0, .int .u8 0, .int .u8 0, .int .u8 0, .int .u8 0, .int .u8 0, .int .u8 0, .int .u8 0, .int .u8 0, .int .u8 0, .int .u8 0, .int .u8 0, .int .u8 0, .int .u8 0, .int .u8 0, .int .u8 0, .int .u8 0, .int .u8 0, .int .u8 0, .int .u8 0, .int .u8 0, .int .u8 0, .int .u8 0, .int .u8 0, .int .u8 0, .int .u8 0, .int .u8 0, .int .u8 0, .int .u8 0, .int .u8 0, .int .u8 0, .slice none 0 0, .int .i64 0, .int .i64 0, .int .i64 0, .int .i64 0, .int .i64 0, .int .i64 0, .int .i64 0, .int .i64 0, .slice none 0 0] 30
            have f2 : Below U0.heap.size U0 (U0.alloc (.cells #[.int .i64 0, .int .u8 0, .int .u8 0, .int .u8 0, .int .u8 0, .int .u8 0, .int .u8 0, .int .u8 0, .int .u8 0, .int .u8 0, .int .u8 0, .int .u8 0, .int .u8 0, .int .u8 0, .int .u8 0, .int .u8 0, .int .u8 0, .int .u8 0, .int .u8 0, .int .u8 0, .int .u8 0, .int .u8 0, .int .u8 0, .int .u8 0, .int .u8 0, .int .u8 0, .int .u8 0, .int .u8 0, .int .u8 0, .int .u8 0, .int .u8 0, .int .u8 0, .int .u8 0, .slice none 0 0, .int .i64 0, .int .i64 0, .int .i64 0, .int .i64 0, .int .i64 0, .int .i64 0, .int .i64 0, .int .i64 0, .slice none 0 0] 30)) := (Below.refl _ _).alloc (Nat.le_refl _) _
            generalize U0.alloc (.cells #[.int .i64 0, .int .u8 0, .int .u8 0, .int .u8 0, .int .u8 0, .int .u8 0, .int .u8 0, .int .u8 0, .int .u8 0, .int .u8 0, .int .u8 0, .int .u8 0, .int .u8 0, .int .u8 0, .int .u8 0, .int .u8 0, .int .u8 0, .int .u8 0, .int .u8 0, .int .u8 0, .int .u8 0, .int .u8 0, .int .u8 0, .int .u8 0, .int .u8 0, .int .u8 0, .int .u8 0, .int .u8 0, .int .u8 0, .int .u8 0, .int .u8 0, .int .u8 0, .int .u8 0, .slice none 0 0, .int .i64 0, .int .i64 0, .int .i64 0, .int .i64 0, .int .i64 0, .int .i64 0, .int .i64 0, .int .i64 0, .slice none 0 0] 30) = V2 at *
            obtain ⟨G, hG⟩ : ∃ G, U0.heap.size = G := ⟨_, rfl⟩
            rw [show Blk V2 U0.heap.size 30 zeroCC = Blk V2 G 30 zeroCC from by rw [hG]] at bG
            have hVG : U0.heap.size ≤ G := by omega
            refine wpP_one ?_
            refine wpP_loud rfl (by rfl) ?_
            intro K hK
            go_simp
            refine (within_capstanlaw17 wh 9 V2 (by omega) (by omega) w_lo w_hi).mono ?_
            rintro e w9 ⟨rfl, rfl⟩
            rw [HM.out]
            refine hK.out _ _ (Below.refl _ _) ?_
            clear hK K
            try simp only [Act.put, List.setIfInBounds_toArray, List.set_cons_zero, List.set_cons_succ]
            first | (refine wpP_quiet (v := ?_) rfl (by rfl) ?_ ?_; rotate_left; (· (intro w' hw'; go_simp; try with_reducible rfl)); simp only [Act.put, List.setIfInBounds_toArray, List.set_cons_zero, List.set_cons_succ]) | (refine wpP_skip rfl (by rfl) ?_; simp only [Act.put, List.setIfInBounds_toArray, List.set_cons_zero, List.set_cons_succ])
            refine wpP_one ?_
            refine wpP_loud rfl (by rfl) ?_
            intro K hK
            go_simp
            refine (middle_err _ cC KC.out 2 (1 + m) 5 (one_ 8) rfl 2 (one_past CC.out 2 5 (1 + m) (by omega) YES2.out YES5.out) (by decide) V2 (zC.to f2)).mono ?_
            rintro en V1 ⟨v9, rfl, hs, hb⟩
            obtain ⟨vt9, vc9, rfl, ht, hc⟩ := hs [] (fun _ h => by cases h)
            have o9t := ht.one
            have o9c := hc.one
            have I9 := Lib.hid (info_co (vt := vt9) (vc := vc9) (c := cC) KC.out.pre KC.out.bank)
            have L9 : Hid ((coC vt9 vc9 cC).length = 43) := Lib.hid (coC_len (c := cC) KC.out.pre KC.out.bank)
            clear hs ht hc
            refine hK.out _ _ (hb.mono f2.size) ?_
            clear hK K
            try simp only [Act.put, List.setIfInBounds_toArray, List.set_cons_zero, List.set_cons_succ]
            replace bG := bG.to hb
            replace f2 := f2.trans (hb.mono f2.size)
            clear hb
            first | (refine wpP_quiet (v := ?_) rfl (by rfl) ?_ ?_; rotate_left; (· (intro w' hw'; go_simp; try with_reducible rfl)); simp only [Act.put, List.setIfInBounds_toArray, List.set_cons_zero, List.set_cons_succ]) | (refine wpP_skip rfl (by rfl) ?_; simp only [Act.put, List.setIfInBounds_toArray, List.set_cons_zero, List.set_cons_succ])
            first | (refine wpP_quiet (v := ?_) rfl (by rfl) ?_ ?_; rotate_left; (· (intro w' hw'; go_simp; try with_reducible rfl)); simp only [Act.put, List.setIfInBounds_toArray, List.set_cons_zero, List.set_cons_succ]) | (refine wpP_skip rfl (by rfl) ?_; simp only [Act.put, List.setIfInBounds_toArray, List.set_cons_zero, List.set_cons_succ])
            first | (refine wpP_quiet (v := ?_) rfl (by rfl) ?_ ?_; rotate_left; (· (intro w' hw'; go_simp; try with_reducible rfl)); simp only [Act.put, List.setIfInBounds_toArray, List.set_cons_zero, List.set_cons_succ]) | (refine wpP_skip rfl (by rfl) ?_; simp only [Act.put, List.setIfInBounds_toArray, List.set_cons_zero, List.set_cons_succ])
            refine wpP_one ?_
            refine wpP_loud rfl (by rfl) ?_
            intro K hK
            refine wp_store_fld _ _ _ rfl G 0 _ _ (coC vt9 vc9 cC) rfl _ rfl rfl bG (by rw [L9.out]; exact Nat.le_refl _) I9.out (coC_one o9t o9c) ?_
            intro V3 bG3 bu3
            refine hK.out _ _ (below_but bu3 hVG f2.size) ?_
            clear hK K
            try simp only [Act.put, List.setIfInBounds_toArray, List.set_cons_zero, List.set_cons_succ]
            first | (refine wpP_quiet (v := ?_) rfl (by rfl) ?_ ?_; rotate_left; (· (intro w' hw'; go_simp; try with_reducible rfl)); simp only [Act.put, List.setIfInBounds_toArray, List.set_cons_zero, List.set_cons_succ]) | (refine wpP_skip rfl (by rfl) ?_; simp only [Act.put, List.setIfInBounds_toArray, List.set_cons_zero, List.set_cons_succ])
            refine wpP_done ?_
            have f3 := f2.trans (below_but bu3 hVG f2.size)
            have dX := bX.to f3
            have dY := bY.to f3
            have yX := zX.to f3
            have yY := zY.to f3
            have ff := fg.trans (f3.mono fg.size)
            clear f3 f2 bu3 bG3 bG hVG hG
            go_wp2_with (first
              | (refine wpl_load_fld (by rfl) _ _ rfl wy4.heap.size 0 rfl (coC vt4 vc4 cM) _ dX.range Try.underlying30 rfl I4.out ?_)
              | (refine wpl_load_fld (by rfl) _ _ rfl wy5.heap.size 0 rfl (coC vt5 vc5 cM) _ dY.range Try.underlying30 rfl I5.out ?_))
            refine (sameC_any _ _ cM KM.out V3 yX yY).mono ?_
            rintro e wq ⟨rfl, hb⟩
            replace ff := ff.trans (hb.mono ff.size)
            go_wp2_with fail
            go_ret
            exact ⟨rfl, ff⟩
        · have t1 : ¬ p > 7 := h7
          have t1d : decide (7 < p) = false := decide_eq_false h7
          have t3 : (p == 5) = false := by simpa using h5
          have t3x : (p != 5) = true := by simpa using h5
          have t4 : (p == 2) = false := by simpa using h2
          have t4x : (p != 2) = true := by simpa using h2
          have t2 : ¬ r > 7 := hr7
          have t2d : decide (7 < r) = false := decide_eq_false hr7
          go_wp2_with (first
            | (refine wpl_load_fld (by rfl) _ _ rfl C 0 rfl (coC vt2 vc2 cC) _ dC.range Try.underlying30 rfl I2.out ?_)
            | (refine wpl_build (by rfl) _ _ rfl _ (by exact builtC7) ?_))
          refine (middle_err _ cC KC.out p 0 r (one_ 7) rfl 1 (by rw [OC.out]; exact ite_same (by omega)) (by decide) w4 yC).mono ?_
          rintro en wy3 ⟨v3, rfl, hs, hb⟩
          obtain ⟨vt3, vc3, rfl, ht, hc⟩ := hs [] (fun _ h => by cases h)
          have o3t := ht.one
          have o3c := hc.one
          have I3 := Lib.hid (info_co (vt := vt3) (vc := vc3) (c := cC) KC.out.pre KC.out.bank)
          have L3 : Hid ((coC vt3 vc3 cC).length = 43) := Lib.hid (coC_len (c := cC) KC.out.pre KC.out.bank)
          have x3 : CoX [] wy3 (.agg (coC vt3 vc3 cC).toArray) cC := ⟨vt3, vc3, rfl, ht, hc⟩
          clear hs ht hc
          replace dC := dC.to hb
          replace yC := yC.to hb
          replace ff := ff.trans (hb.mono ff.size)
          clear hb
          go_wp2_with (first
            | (refine wpl_store_new rfl _ _ _ rfl 30 _ (coC vt3 vc3 cC) rfl rfl (by rw [L3.out]; rfl) I3.out (coC_one o3t o3c) ?_
               intro wz3 dD hz
               simp only [Act.put, List.setIfInBounds_toArray, List.set_cons_zero, List.set_cons_succ]
               replace dC := dC.to hz
               replace yC := yC.to hz
               replace ff := ff.trans (hz.mono ff.size)
               have yD := x3.to hz
               clear hz x3)
            | (refine wpl_load_fld (by rfl) _ _ rfl C 0 rfl (coC vt2 vc2 cC) _ dC.range Try.underlying30 rfl I2.out ?_)
            | (refine wpl_load_fld (by rfl) _ _ rfl wy3.heap.size 0 rfl (coC vt3 vc3 cC) _ dD.range Try.underlying30 rfl I3.out ?_))
          refine (sameC_any _ _ cC KC.out wz3 yC yD).mono ?_
          rintro e wq ⟨rfl, hb⟩
          clear dD yD
          replace dC := dC.to hb
          replace yC := yC.to hb
          replace ff := ff.trans (hb.mono ff.size)
          clear hb
          go_wp2_with (first
            | (refine wpl_load_fld (by rfl) _ _ rfl C 0 rfl (coC vt2 vc2 cC) _ dC.range Try.underlying30 rfl I2.out ?_)
            | (refine wpl_build (by rfl) _ _ rfl _ (by exact builtC7) ?_))
          refine (middle_ok _ cC KC.out 2 5 (one_ 7) rfl mvX CC.out 0 mvSu rfl (mv_hne _) (by decide) (mv_hsb _) BC.out (by decide) (by decide) (by rw [OC.out, if_neg (by intro h; rcases h with h | h; exact h YES2.out; exact h YES5.out), if_neg (by decide), if_pos rfl]; rfl) wq yC).mono ?_
          rw [R1.out]
          rintro en wy4 ⟨v4, rfl, hs, hb⟩
          obtain ⟨vt4, vc4, rfl, ht, hc⟩ := hs [] (fun _ h => by cases h)
          have o4t := ht.one
          have o4c := hc.one
          have I4 := Lib.hid (info_co (vt := vt4) (vc := vc4) (c := cM) KM.out.pre KM.out.bank)
          have L4 : Hid ((coC vt4 vc4 cM).length = 43) := Lib.hid (coC_len (c := cM) KM.out.pre KM.out.bank)
          have x4 : CoX [] wy4 (.agg (coC vt4 vc4 cM).toArray) cM := ⟨vt4, vc4, rfl, ht, hc⟩
          clear hs ht hc
          replace dC := dC.to hb
          replace yC := yC.to hb
          replace ff := ff.trans (hb.mono ff.size)
          clear hb
          go_wp2_with (first
            | (refine wpl_store_new rfl _ _ _ rfl 30 _ (coC vt4 vc4 cM) rfl rfl (by rw [L4.out]; rfl) I4.out (coC_one o4t o4c) ?_
               intro wz4 dX hz
               simp only [Act.put, List.setIfInBounds_toArray, List.set_cons_zero, List.set_cons_succ]
               replace dC := dC.to hz
               replace yC := yC.to hz
               replace ff := ff.trans (hz.mono ff.size)
               have yX := x4.to hz
               clear hz x4)
            | (refine wpl_load_fld (by rfl) _ _ rfl wy4.heap.size 0 rfl (coC vt4 vc4 cM) _ dX.range Try.underlying30 rfl I4.out ?_))
          refine (side_err _ cM KM.out p 0 true (⟨hp10.1, by omega⟩) 2 (by rw [PM.out, if_neg (by omega)]) (by decide) wz4 yX).mono ?_
          rintro en wy5 ⟨v5, rfl, hs, hb⟩
          obtain ⟨vt5, vc5, rfl, ht, hc⟩ := hs [] (fun _ h => by cases h)
          have o5t := ht.one
          have o5c := hc.one
          have I5 := Lib.hid (info_co (vt := vt5) (vc := vc5) (c := cM) KM.out.pre KM.out.bank)
          have L5 : Hid ((coC vt5 vc5 cM).length = 43) := Lib.hid (coC_len (c := cM) KM.out.pre KM.out.bank)
          have x5 : CoX [] wy5 (.agg (coC vt5 vc5 cM).toArray) cM := ⟨vt5, vc5, rfl, ht, hc⟩
          clear hs ht hc
          replace dC := dC.to hb
          replace yC := yC.to hb
          replace dX := dX.to hb
          replace yX := yX.to hb
          replace ff := ff.trans (hb.mono ff.size)
          clear hb
          go_wp2_with (first
            | (refine wpl_store_new rfl _ _ _ rfl 30 _ (coC vt5 vc5 cM) rfl rfl (by rw [L5.out]; rfl) I5.out (coC_one o5t o5c) ?_
               intro wz5 dY hz
               simp only [Act.put, List.setIfInBounds_toArray, List.set_cons_zero, List.set_cons_succ]
               replace dC := dC.to hz
               replace yC := yC.to hz
               replace dX := dX.to hz
               replace yX := yX.to hz
               replace ff := ff.trans (hz.mono ff.size)
               have yY := x5.to hz
               clear hz x5)
            | (refine wpl_load_fld (by rfl) _ _ rfl wy4.heap.size 0 rfl (coC vt4 vc4 cM) _ dX.range Try.underlying30 rfl I4.out ?_)
            | (refine wpl_build (by rfl) _ _ rfl _ (by exact builtC8) ?_))
          refine (middle_ok _ cM KM.out 2 5 (one_ 8) rfl mvX2 CM.out 0 mvSu2 rfl (mv_hne _) (by decide) (mv_hsb _) BM.out (by decide) (by decide) (by rw [OM.out, if_neg (by intro h; rcases h with h | h; exact h YES2.out; exact h YES5.out), if_neg (by decide), if_pos rfl]; rfl) wz5 yX).mono ?_
          rw [R2.out]
          rintro en wy6 ⟨v6, rfl, hs, hb⟩
          obtain ⟨vt6, vc6, rfl, ht, hc⟩ := hs [] (fun _ h => by cases h)
          have o6t := ht.one
          have o6c := hc.one
          have I6 := Lib.hid (info_co (vt := vt6) (vc := vc6) (c := cM) KM.out.pre KM.out.bank)
          have L6 : Hid ((coC vt6 vc6 cM).length = 43) := Lib.hid (coC_len (c := cM) KM.out.pre KM.out.bank)
          have x6 : CoX [] wy6 (.agg (coC vt6 vc6 cM).toArray) cM := ⟨vt6, vc6, rfl, ht, hc⟩
          clear hs ht hc
          replace dC := dC.to hb
          replace yC := yC.to hb
          replace dX := dX.to hb
          replace yX := yX.to hb
          replace dY := dY.to hb
          replace yY := yY.to hb
          replace ff := ff.trans (hb.mono ff.size)
          clear hb
          go_wp2_with (first
            | (refine wpl_store_new rfl _ _ _ rfl 30 _ (coC vt6 vc6 cM) rfl rfl (by rw [L6.out]; rfl) I6.out (coC_one o6t o6c) ?_
               intro wz6 dG hz
               simp only [Act.put, List.setIfInBounds_toArray, List.set_cons_zero, List.set_cons_succ]
               replace dC := dC.to hz
               replace yC := yC.to hz
               replace dX := dX.to hz
               replace yX := yX.to hz
               replace dY := dY.to hz
               replace yY := yY.to hz
               replace ff := ff.trans (hz.mono ff.size)
               have yG := x6.to hz
               clear hz x6
               clear dG yG)
            | (refine wpl_load_fld (by rfl) _ _ rfl C 0 rfl (coC vt2 vc2 cC) _ dC.range Try.underlying30 rfl I2.out ?_))
          refine (side_ok _ cC KC.out 5 true YES5.out mvX CC.out 0 mvSu rfl (mv_hne _) (by decide) (mv_hsb _) BC.out (by decide) (by decide) (by decide) (by decide) (by decide) (by rw [PC.out, if_pos rfl]; rfl) wz6 yC).mono ?_
          rw [R3.out]
          rintro en wy7 ⟨v7, rfl, hs, hb⟩
          obtain ⟨vt7, vc7, rfl, ht, hc⟩ := hs [] (fun _ h => by cases h)
          have o7t := ht.one
          have o7c := hc.one
          have I7 := Lib.hid (info_co (vt := vt7) (vc := vc7) (c := cC) KC.out.pre KC.out.bank)
          have L7 : Hid ((coC vt7 vc7 cC).length = 43) := Lib.hid (coC_len (c := cC) KC.out.pre KC.out.bank)
          have x7 : CoX [] wy7 (.agg (coC vt7 vc7 cC).toArray) cC := ⟨vt7, vc7, rfl, ht, hc⟩
          clear hs ht hc
          replace dC := dC.to hb
          replace yC := yC.to hb
          replace dX := dX.to hb
          replace yX := yX.to hb
          replace dY := dY.to hb
          replace yY := yY.to hb
          replace ff := ff.trans (hb.mono ff.size)
          clear hb
          go_wp2_with (first
            | (refine wpl_store_new rfl _ _ _ rfl 30 _ (coC vt7 vc7 cC) rfl rfl (by rw [L7.out]; rfl) I7.out (coC_one o7t o7c) ?_
               intro wz7 dH hz
               simp only [Act.put, List.setIfInBounds_toArray, List.set_cons_zero, List.set_cons_succ]
               replace dC := dC.to hz
               replace yC := yC.to hz
               replace dX := dX.to hz
               replace yX := yX.to hz
               replace dY := dY.to hz
               replace yY := yY.to hz
               replace ff := ff.trans (hz.mono ff.size)
               have yH := x7.to hz
               clear hz x7
               clear dH yH))
          have w1m : IntKind.i64.wrap (1 + m) = 1 + m := IntWalk.i64_in _ (by omega)
          refine wp_region_P (.take 0 (.take 1 (.take 4 (.two 2 (.take 3 (.two 5 (.take 6 (.take 7 (.take 8 (.one 9 (.one 10 (.take 11 .done)))))) 9 (.one 5 (.take 6 (.take 7 (.take 8 (.one 10 (.take 11 .done)))))))) 9 (.one 2 (.take 3 (.one 5 (.take 6 (.take 7 (.take 8 (.one 10 (.take 11 .done)))))))))))) (Below wz7.heap.size) (by kernel_rfl) (by kernel_rfl) (by kernel_rfl) (by decide +kernel) (Below.refl _) (fun _ _ _ => Below.trans) (by intro d v c a w h; first | (cases d <;> exact h) | exact absurd h.1 (by simp)) ?_
          have bC : Blk wz7.drew C 30 (coC vt2 vc2 cC) := dC
          have bX : Blk wz7.drew wy4.heap.size 30 (coC vt4 vc4 cM) := dX
          have bY : Blk wz7.drew wy5.heap.size 30 (coC vt5 vc5 cM) := dY
          have zC := yC.drew
          have zX := yX.drew
          have zY := yY.drew
          have fg := ff.drew
          clear dC yC dX yX dY yY ff
          have hsz : wz7.heap.size = wz7.drew.heap.size := rfl
          rw [hsz]
          clear hsz
          generalize wz7.drew = U0 at *
          refine wpP_load rfl (by rfl) _ _ rfl C 0 rfl (coC vt2 vc2 cC) _ (fun w' hw' => (bC.below hw' bC.lt).range) Try.underlying30 rfl I2.out ?_; simp only [Act.put, List.setIfInBounds_toArray, List.set_cons_zero, List.set_cons_succ]
          first | (refine wpP_quiet (v := ?_) rfl (by rfl) ?_ ?_; rotate_left; (· (intro w' hw'; go_simp; try with_reducible rfl)); simp only [Act.put, List.setIfInBounds_toArray, List.set_cons_zero, List.set_cons_succ]) | (refine wpP_skip rfl (by rfl) ?_; simp only [Act.put, List.setIfInBounds_toArray, List.set_cons_zero, List.set_cons_succ])
          refine wpP_build rfl (by rfl) _ _ rfl _ (by exact builtC8) ?_; simp only [Act.put, List.setIfInBounds_toArray, List.set_cons_zero, List.set_cons_succ]
          refine wpP_two ?_ ?_
          · refine wpP_loud rfl (by rfl) ?_
            intro K hK
            go_simp
            refine (within_capstanlaw17 wh 9 U0 (by omega) (by omega) w_lo w_hi).mono ?_
            rintro e w9 ⟨rfl, rfl⟩
            rw [HM.out]
            refine hK.out _ _ (Below.refl _ _) ?_
            clear hK K
            try simp only [Act.put, List.setIfInBounds_toArray, List.set_cons_zero, List.set_cons_succ]
            first | (refine wpP_quiet (v := ?_) rfl (by rfl) ?_ ?_; rotate_left; (· (intro w' hw'; go_simp; try with_reducible rfl)); simp only [Act.put, List.setIfInBounds_toArray, List.set_cons_zero, List.set_cons_succ]) | (refine wpP_skip rfl (by rfl) ?_; simp only [Act.put, List.setIfInBounds_toArray, List.set_cons_zero, List.set_cons_succ])
            refine wpP_two ?_ ?_
            · refine wpP_loud rfl (by rfl) ?_
              intro K hK
              go_simp
              refine (middle_err _ cC KC.out 2 (1 + m) 5 (one_ 8) rfl 2 (one_past CC.out 2 5 (1 + m) (by omega) YES2.out YES5.out) (by decide) U0 zC).mono ?_
              rintro en V1 ⟨v9, rfl, hs, hb⟩
              obtain ⟨vt9, vc9, rfl, ht, hc⟩ := hs [] (fun _ h => by cases h)
              have o9t := ht.one
              have o9c := hc.one
              have I9 := Lib.hid (info_co (vt := vt9) (vc := vc9) (c := cC) KC.out.pre KC.out.bank)
              have L9 : Hid ((coC vt9 vc9 cC).length = 43) := Lib.hid (coC_len (c := cC) KC.out.pre KC.out.bank)
              clear hs ht hc
              refine hK.out _ _ hb ?_
              clear hK K
              try simp only [Act.put, List.setIfInBounds_toArray, List.set_cons_zero, List.set_cons_succ]
              have f2 : Below U0.heap.size U0 V1 := hb
              clear hb
              first | (refine wpP_quiet (v := ?_) rfl (by rfl) ?_ ?_; rotate_left; (· (intro w' hw'; go_simp; try with_reducible rfl)); simp only [Act.put, List.setIfInBounds_toArray, List.set_cons_zero, List.set_cons_succ]) | (refine wpP_skip rfl (by rfl) ?_; simp only [Act.put, List.setIfInBounds_toArray, List.set_cons_zero, List.set_cons_succ])
              first | (refine wpP_quiet (v := ?_) rfl (by rfl) ?_ ?_; rotate_left; (· (intro w' hw'; go_simp; try with_reducible rfl)); simp only [Act.put, List.setIfInBounds_toArray, List.set_cons_zero, List.set_cons_succ]) | (refine wpP_skip rfl (by rfl) ?_; simp only [Act.put, List.setIfInBounds_toArray, List.set_cons_zero, List.set_cons_succ])
              first | (refine wpP_quiet (v := ?_) rfl (by rfl) ?_ ?_; rotate_left; (· (intro w' hw'; go_simp; try with_reducible rfl)); simp only [Act.put, List.setIfInBounds_toArray, List.set_cons_zero, List.set_cons_succ]) | (refine wpP_skip rfl (by rfl) ?_; simp only [Act.put, List.setIfInBounds_toArray, List.set_cons_zero, List.set_cons_succ])
              refine wpP_one ?_
              refine wpP_loud rfl (by rfl) ?_
              intro K hK
              go_simp
              refine hK.out _ _ ((Below.refl _ _).alloc (by exact f2.size) _) ?_
              clear hK K
              try simp only [Act.put, List.setIfInBounds_toArray, List.set_cons_zero, List.set_cons_succ]
              have bG : Blk (V1.alloc (.cells #[.int .i64 0, .int .u8 0, .int .u8 0, .int .u8 0, .int .u8 0, .int .u8 0, .int .u8 0, .int .u8 0, .int .u8 0, .int .u8 0, .int .u8 0, .int .u8 0, .int .u8 0, .int .u8 0, .int .u8 0, .int .u8 0, .int .u8 0, .int .u8 0, .int .u8 0, .int .u8 0, .int .u8 0, .int .u8 0, .int .u8 0, .int .u8 0, .int .u8 0, .int .u8 0, .int .u8 0, .int .u8 0, .int .u8 0, .int .u8 0, .int .u8 0, .int .u8 0, .int .u8 0, .slice none 0 0, .int .i64 0, .int .i64 0, .int .i64 0, .int .i64 0, .int .i64 0, .int .i64 0, .int .i64 0, .int .i64 0, .slice none 0 0] 30)) V1.heap.size 30 zeroCC := Blk.new V1 #[.int .i64 0, .int .u8 0, .int .u8 0, .int .u8 0, .int .u8 0, .int .u8 0, .int .u8 0, .int .u8 0, .int .u8 0, .int .u8 0, .int .u8 0, .int .u8 0, .int .u8 0, .int .u8 0, .int .u8 0, .int .u8 0, .int .u8 0, .int .u8 0, .int .u8 0, .int .u8 0, .int .u8 0, .int .u8 0, .int .u8 0, .int .u8 0, .int .u8 0, .int .u8 0, .int .u8 0, .int .u8 0, .int .u8 0, .int .u8 0, .int .u8 0, .int .u8 0, .int .u8 0, .slice none 0 0, .int .i64 0, .int .i64 0, .int .i64 0, .int .i64 0, .int .i64 0, .int .i64 0, .int .i64 0, .int .i64 0, .slice none 0 0] 30
              have hVG : U0.heap.size ≤ V1.heap.size := f2.size
              replace f2 : Below U0.heap.size U0 (V1.alloc (.cells #[.int .i64 0, .int .u8 0, .int .u8 0, .int .u8 0, .int .u8 0, .int .u8 0, .int .u8 0, .int .u8 0, .int .u8 0, .int .u8 0, .int .u8 0, .int .u8 0, .int .u8 0, .int .u8 0, .int .u8 0, .int .u8 0, .int .u8 0, .int .u8 0, .int .u8 0, .int .u8 0, .int .u8 0, .int .u8 0, .int .u8 0, .int .u8 0, .int .u8 0, .int .u8 0, .int .u8 0, .int .u8 0, .int .u8 0, .int .u8 0, .int .u8 0, .int .u8 0, .int .u8 0, .slice none 0 0, .int .i64 0, .int .i64 0, .int .i64 0, .int .i64 0, .int .i64 0, .int .i64 0, .int .i64 0, .int .i64 0, .slice none 0 0] 30)) := f2.alloc (by exact f2.size) _
              generalize V1.alloc (.cells #[.int .i64 0, .int .u8 0, .int .u8 0, .int .u8 0, .int .u8 0, .int .u8 0, .int .u8 0, .int .u8 0, .int .u8 0, .int .u8 0, .int .u8 0, .int .u8 0, .int .u8 0, .int .u8 0, .int .u8 0, .int .u8 0, .int .u8 0, .int .u8 0, .int .u8 0, .int .u8 0, .int .u8 0, .int .u8 0, .int .u8 0, .int .u8 0, .int .u8 0, .int .u8 0, .int .u8 0, .int .u8 0, .int .u8 0, .int .u8 0, .int .u8 0, .int .u8 0, .int .u8 0, .slice none 0 0, .int .i64 0, .int .i64 0, .int .i64 0, .int .i64 0, .int .i64 0, .int .i64 0, .int .i64 0, .int .i64 0, .slice none 0 0] 30) = V2 at *
              generalize hG : V1.heap.size = G at *
              refine wpP_one ?_
              refine wpP_loud rfl (by rfl) ?_
              intro K hK
              refine wp_store_fld _ _ _ rfl G 0 _ _ (coC vt9 vc9 cC) rfl _ rfl rfl bG (by rw [L9.out]; exact Nat.le_refl _) I9.out (coC_one o9t o9c) ?_
              intro V3 bG3 bu3
              refine hK.out _ _ (below_but bu3 hVG f2.size) ?_
              clear hK K
              try simp only [Act.put, List.setIfInBounds_toArray, List.set_cons_zero, List.set_cons_succ]
              first | (refine wpP_quiet (v := ?_) rfl (by rfl) ?_ ?_; rotate_left; (· (intro w' hw'; go_simp; try with_reducible rfl)); simp only [Act.put, List.setIfInBounds_toArray, List.set_cons_zero, List.set_cons_succ]) | (refine wpP_skip rfl (by rfl) ?_; simp only [Act.put, List.setIfInBounds_toArray, List.set_cons_zero, List.set_cons_succ])
              refine wpP_done ?_
              have f3 := f2.trans (below_but bu3 hVG f2.size)
              have dX := bX.to f3
              have dY := bY.to f3
              have yX := zX.to f3
              have yY := zY.to f3
              have ff := fg.trans (f3.mono fg.size)
              clear f3 f2 bu3 bG3 bG hVG hG
              go_wp2_with (first
                | (refine wpl_load_fld (by rfl) _ _ rfl wy4.heap.size 0 rfl (coC vt4 vc4 cM) _ dX.range Try.underlying30 rfl I4.out ?_)
                | (refine wpl_load_fld (by rfl) _ _ rfl wy5.heap.size 0 rfl (coC vt5 vc5 cM) _ dY.range Try.underlying30 rfl I5.out ?_))
              refine (sameC_any _ _ cM KM.out V3 yX yY).mono ?_
              rintro e wq ⟨rfl, hb⟩
              replace ff := ff.trans (hb.mono ff.size)
              go_wp2_with fail
              go_ret
              exact ⟨rfl, ff⟩
            · refine wpP_loud rfl (by rfl) ?_
              intro K hK
              go_simp
              refine hK.out _ _ ((Below.refl _ _).alloc (Nat.le_refl _) _) ?_
              clear hK K
              try simp only [Act.put, List.setIfInBounds_toArray, List.set_cons_zero, List.set_cons_succ]
              have bG : Blk (U0.alloc (.cells #[.int .i64 0, .int .u8 0, .int .u8 0, .int .u8 0, .int .u8 0, .int .u8 0, .int .u8 0, .int .u8 0, .int .u8 0, .int .u8 0, .int .u8 0, .int .u8 0, .int .u8 0, .int .u8 0, .int .u8 0, .int .u8 0, .int .u8 0, .int .u8 0, .int .u8 0, .int .u8 0, .int .u8 0, .int .u8 0, .int .u8 0, .int .u8 0, .int .u8 0, .int .u8 0, .int .u8 0, .int .u8 0, .int .u8 0, .int .u8 0, .int .u8 0, .int .u8 0, .int .u8 0, .slice none 0 0, .int .i64 0, .int .i64 0, .int .i64 0, .int .i64 0, .int .i64 0, .int .i64 0, .int .i64 0, .int .i64 0, .slice none 0 0] 30)) U0.heap.size 30 zeroCC := Blk.new U0 #[.int .i64 0, .int .u8 0, .int .u8 0, .int .u8 0, .int .u8 0, .int .u8 0, .int .u8 0, .int .u8 0, .int .u8 0, .int .u8 0, .int .u8 0, .int .u8 0, .int .u8 0, .int .u8 0, .int .u8 0, .int .u8 0, .int .u8 0, .int .u8 0, .int .u8 0, .int .u8 0, .int .u8 0, .int .u8 0, .int .u8 0, .int .u8 0, .int .u8 0, .int .u8 0, .int .u8 0, .int .u8 0, .int .u8 0, .int .u8 0, .int .u8 0, .int .u8 0, .int .u8 0, .slice none 0 0, .int .i64 0, .int .i64 0, .int .i64 0, .int .i64 0, .int .i64 0, .int .i64 0, .int .i64 0, .int .i64 0, .slice none 0 0] 30
              have f2 : Below U0.heap.size U0 (U0.alloc (.cells #[.int .i64 0, .int .u8 0, .int .u8 0, .int .u8 0, .int .u8 0, .int .u8 0, .int .u8 0, .int .u8 0, .int .u8 0, .int .u8 0, .int .u8 0, .int .u8 0, .int .u8 0, .int .u8 0, .int .u8 0, .int .u8 0, .int .u8 0, .int .u8 0, .int .u8 0, .int .u8 0, .int .u8 0, .int .u8 0, .int .u8 0, .int .u8 0, .int .u8 0, .int .u8 0, .int .u8 0, .int .u8 0, .int .u8 0, .int .u8 0, .int .u8 0, .int .u8 0, .int .u8 0, .slice none 0 0, .int .i64 0, .int .i64 0, .int .i64 0, .int .i64 0, .int .i64 0, .int .i64 0, .int .i64 0, .int .i64 0, .slice none 0 0] 30)) := (Below.refl _ _).alloc (Nat.le_refl _) _
              generalize U0.alloc (.cells #[.int .i64 0, .int .u8 0, .int .u8 0, .int .u8 0, .int .u8 0, .int .u8 0, .int .u8 0, .int .u8 0, .int .u8 0, .int .u8 0, .int .u8 0, .int .u8 0, .int .u8 0, .int .u8 0, .int .u8 0, .int .u8 0, .int .u8 0, .int .u8 0, .int .u8 0, .int .u8 0, .int .u8 0, .int .u8 0, .int .u8 0, .int .u8 0, .int .u8 0, .int .u8 0, .int .u8 0, .int .u8 0, .int .u8 0, .int .u8 0, .int .u8 0, .int .u8 0, .int .u8 0, .slice none 0 0, .int .i64 0, .int .i64 0, .int .i64 0, .int .i64 0, .int .i64 0, .int .i64 0, .int .i64 0, .int .i64 0, .slice none 0 0] 30) = V2 at *
              obtain ⟨G, hG⟩ : ∃ G, U0.heap.size = G := ⟨_, rfl⟩
              rw [show Blk V2 U0.heap.size 30 zeroCC = Blk V2 G 30 zeroCC from by rw [hG]] at bG
              have hVG : U0.heap.size ≤ G := by omega
              refine wpP_one ?_
              refine wpP_loud rfl (by rfl) ?_
              intro K hK
              go_simp
              refine (middle_err _ cC KC.out 2 (1 + m) 5 (one_ 8) rfl 2 (one_past CC.out 2 5 (1 + m) (by omega) YES2.out YES5.out) (by decide) V2 (zC.to f2)).mono ?_
              rintro en V1 ⟨v9, rfl, hs, hb⟩
              obtain ⟨vt9, vc9, rfl, ht, hc⟩ := hs [] (fun _ h => by cases h)
              have o9t := ht.one
              have o9c := hc.one
              have I9 := Lib.hid (info_co (vt := vt9) (vc := vc9) (c := cC) KC.out.pre KC.out.bank)
              have L9 : Hid ((coC vt9 vc9 cC).length = 43) := Lib.hid (coC_len (c := cC) KC.out.pre KC.out.bank)
              clear hs ht hc
              refine hK.out _ _ (hb.mono f2.size) ?_
              clear hK K
              try simp only [Act.put, List.setIfInBounds_toArray, List.set_cons_zero, List.set_cons_succ]
              replace bG := bG.to hb
              replace f2 := f2.trans (hb.mono f2.size)
              clear hb
              first | (refine wpP_quiet (v := ?_) rfl (by rfl) ?_ ?_; rotate_left; (· (intro w' hw'; go_simp; try with_reducible rfl)); simp only [Act.put, List.setIfInBounds_toArray, List.set_cons_zero, List.set_cons_succ]) | (refine wpP_skip rfl (by rfl) ?_; simp only [Act.put, List.setIfInBounds_toArray, List.set_cons_zero, List.set_cons_succ])
              first | (refine wpP_quiet (v := ?_) rfl (by rfl) ?_ ?_; rotate_left; (· (intro w' hw'; go_simp; try with_reducible rfl)); simp only [Act.put, List.setIfInBounds_toArray, List.set_cons_zero, List.set_cons_succ]) | (refine wpP_skip rfl (by rfl) ?_; simp only [Act.put, List.setIfInBounds_toArray, List.set_cons_zero, List.set_cons_succ])
              first | (refine wpP_quiet (v := ?_) rfl (by rfl) ?_ ?_; rotate_left; (· (intro w' hw'; go_simp; try with_reducible rfl)); simp only [Act.put, List.setIfInBounds_toArray, List.set_cons_zero, List.set_cons_succ]) | (refine wpP_skip rfl (by rfl) ?_; simp only [Act.put, List.setIfInBounds_toArray, List.set_cons_zero, List.set_cons_succ])
              refine wpP_one ?_
              refine wpP_loud rfl (by rfl) ?_
              intro K hK
              refine wp_store_fld _ _ _ rfl G 0 _ _ (coC vt9 vc9 cC) rfl _ rfl rfl bG (by rw [L9.out]; exact Nat.le_refl _) I9.out (coC_one o9t o9c) ?_
              intro V3 bG3 bu3
              refine hK.out _ _ (below_but bu3 hVG f2.size) ?_
              clear hK K
              try simp only [Act.put, List.setIfInBounds_toArray, List.set_cons_zero, List.set_cons_succ]
              first | (refine wpP_quiet (v := ?_) rfl (by rfl) ?_ ?_; rotate_left; (· (intro w' hw'; go_simp; try with_reducible rfl)); simp only [Act.put, List.setIfInBounds_toArray, List.set_cons_zero, List.set_cons_succ]) | (refine wpP_skip rfl (by rfl) ?_; simp only [Act.put, List.setIfInBounds_toArray, List.set_cons_zero, List.set_cons_succ])
              refine wpP_done ?_
              have f3 := f2.trans (below_but bu3 hVG f2.size)
              have dX := bX.to f3
              have dY := bY.to f3
              have yX := zX.to f3
              have yY := zY.to f3
              have ff := fg.trans (f3.mono fg.size)
              clear f3 f2 bu3 bG3 bG hVG hG
              go_wp2_with (first
                | (refine wpl_load_fld (by rfl) _ _ rfl wy4.heap.size 0 rfl (coC vt4 vc4 cM) _ dX.range Try.underlying30 rfl I4.out ?_)
                | (refine wpl_load_fld (by rfl) _ _ rfl wy5.heap.size 0 rfl (coC vt5 vc5 cM) _ dY.range Try.underlying30 rfl I5.out ?_))
              refine (sameC_any _ _ cM KM.out V3 yX yY).mono ?_
              rintro e wq ⟨rfl, hb⟩
              replace ff := ff.trans (hb.mono ff.size)
              go_wp2_with fail
              go_ret
              exact ⟨rfl, ff⟩
          · refine wpP_loud rfl (by rfl) ?_
            intro K hK
            go_simp
            refine hK.out _ _ ((Below.refl _ _).alloc (Nat.le_refl _) _) ?_
            clear hK K
            try simp only [Act.put, List.setIfInBounds_toArray, List.set_cons_zero, List.set_cons_succ]
            have bG : Blk (U0.alloc (.cells #[.int .i64 0, .int .u8 0, .int .u8 0, .int .u8 0, .int .u8 0, .int .u8 0, .int .u8 0, .int .u8 0, .int .u8 0, .int .u8 0, .int .u8 0, .int .u8 0, .int .u8 0, .int .u8 0, .int .u8 0, .int .u8 0, .int .u8 0, .int .u8 0, .int .u8 0, .int .u8 0, .int .u8 0, .int .u8 0, .int .u8 0, .int .u8 0, .int .u8 0, .int .u8 0, .int .u8 0, .int .u8 0, .int .u8 0, .int .u8 0, .int .u8 0, .int .u8 0, .int .u8 0, .slice none 0 0, .int .i64 0, .int .i64 0, .int .i64 0, .int .i64 0, .int .i64 0, .int .i64 0, .int .i64 0, .int .i64 0, .slice none 0 0] 30)) U0.heap.size 30 zeroCC := Blk.new U0 #[.int .i64 0, .int .u8 0, .int .u8 0, .int .u8 0, .int .u8 0, .int .u8 0, .int .u8 0, .int .u8 0, .int .u8 0, .int .u8 0, .int .u8 0, .int .u8 0, .int .u8 0, .int .u8 0, .int .u8 0, .int .u8 0, .int .u8 0, .int .u8 0, .int .u8 0, .int .u8 0, .int .u8 0, .int .u8 0, .int .u8 0, .int .u8 0, .int .u8 0, .int .u8 0, .int .u8 0, .int .u8 0, .int .u8 0, .int .u8 0, .int .u8 0, .int .u8 0, .int .u8 0, .slice none 0 0, .int .i64 0, .int .i64 0, .int .i64 0, .int .i64 0, .int .i64 0, .int .i64 0, .int .i64 0, .int .i64 0, .slice none 0 0] 30
            have f2 : Below U0.heap.size U0 (U0.alloc (.cells #[.int .i64 0, .int .u8 0, .int .u8 0, .int .u8 0, .int .u8 0, .int .u8 0, .int .u8 0, .int .u8 0, .int .u8 0, .int .u8 0, .int .u8 0, .int .u8 0, .int .u8 0, .int .u8 0, .int .u8 0, .int .u8 0, .int .u8 0, .int .u8 0, .int .u8 0, .int .u8 0, .int .u8 0, .int .u8 0, .int .u8 0, .int .u8 0, .int .u8 0, .int .u8 0, .int .u8 0, .int .u8 0, .int .u8 0, .int .u8 0, .int .u8 0, .int .u8 0, .int .u8 0, .slice none 0 0, .int .i64 0, .int .i64 0, .int .i64 0, .int .i64 0, .int .i64 0, .int .i64 0, .int .i64 0, .int .i64 0, .slice none 0 0] 30)) := (Below.refl _ _).alloc (Nat.le_refl _) _
            generalize U0.alloc (.cells #[.int .i64 0, .int .u8 0, .int .u8 0, .int .u8 0, .int .u8 0, .int .u8 0, .int .u8 0, .int .u8 0, .int .u8 0, .int .u8 0, .int .u8 0, .int .u8 0, .int .u8 0, .int .u8 0, .int .u8 0, .int .u8 0, .int .u8 0, .int .u8 0, .int .u8 0, .int .u8 0, .int .u8 0, .int .u8 0, .int .u8 0, .int .u8 0, .int .u8 0, .int .u8 0, .int .u8 0, .int .u8 0, .int .u8 0, .int .u8 0, .int .u8 0, .int .u8 0, .int .u8 0, .slice none 0 0, .int .i64 0, .int .i64 0, .int .i64 0, .int .i64 0, .int .i64 0, .int .i64 0, .int .i64 0, .int .i64 0, .slice none 0 0] 30) = V2 at *
            obtain ⟨G, hG⟩ : ∃ G, U0.heap.size = G := ⟨_, rfl⟩
            rw [show Blk V2 U0.heap.size 30 zeroCC = Blk V2 G 30 zeroCC from by rw [hG]] at bG
            have hVG : U0.heap.size ≤ G := by omega
            refine wpP_one ?_
            refine wpP_loud rfl (by rfl) ?_
            intro K hK
            go_simp
            refine (within_capstanlaw17 wh 9 V2 (by omega) (by omega) w_lo w_hi).mono ?_
            rintro e w9 ⟨rfl, rfl⟩
            rw [HM.out]
            refine hK.out _ _ (Below.refl _ _) ?_
            clear hK K
            try simp only [Act.put, List.setIfInBounds_toArray, List.set_cons_zero, List.set_cons_succ]
            first | (refine wpP_quiet (v := ?_) rfl (by rfl) ?_ ?_; rotate_left; (· (intro w' hw'; go_simp; try with_reducible rfl)); simp only [Act.put, List.setIfInBounds_toArray, List.set_cons_zero, List.set_cons_succ]) | (refine wpP_skip rfl (by rfl) ?_; simp only [Act.put, List.setIfInBounds_toArray, List.set_cons_zero, List.set_cons_succ])
            refine wpP_one ?_
            refine wpP_loud rfl (by rfl) ?_
            intro K hK
            go_simp
            refine (middle_err _ cC KC.out 2 (1 + m) 5 (one_ 8) rfl 2 (one_past CC.out 2 5 (1 + m) (by omega) YES2.out YES5.out) (by decide) V2 (zC.to f2)).mono ?_
            rintro en V1 ⟨v9, rfl, hs, hb⟩
            obtain ⟨vt9, vc9, rfl, ht, hc⟩ := hs [] (fun _ h => by cases h)
            have o9t := ht.one
            have o9c := hc.one
            have I9 := Lib.hid (info_co (vt := vt9) (vc := vc9) (c := cC) KC.out.pre KC.out.bank)
            have L9 : Hid ((coC vt9 vc9 cC).length = 43) := Lib.hid (coC_len (c := cC) KC.out.pre KC.out.bank)
            clear hs ht hc
            refine hK.out _ _ (hb.mono f2.size) ?_
            clear hK K
            try simp only [Act.put, List.setIfInBounds_toArray, List.set_cons_zero, List.set_cons_succ]
            replace bG := bG.to hb
            replace f2 := f2.trans (hb.mono f2.size)
            clear hb
            first | (refine wpP_quiet (v := ?_) rfl (by rfl) ?_ ?_; rotate_left; (· (intro w' hw'; go_simp; try with_reducible rfl)); simp only [Act.put, List.setIfInBounds_toArray, List.set_cons_zero, List.set_cons_succ]) | (refine wpP_skip rfl (by rfl) ?_; simp only [Act.put, List.setIfInBounds_toArray, List.set_cons_zero, List.set_cons_succ])
            first | (refine wpP_quiet (v := ?_) rfl (by rfl) ?_ ?_; rotate_left; (· (intro w' hw'; go_simp; try with_reducible rfl)); simp only [Act.put, List.setIfInBounds_toArray, List.set_cons_zero, List.set_cons_succ]) | (refine wpP_skip rfl (by rfl) ?_; simp only [Act.put, List.setIfInBounds_toArray, List.set_cons_zero, List.set_cons_succ])
            first | (refine wpP_quiet (v := ?_) rfl (by rfl) ?_ ?_; rotate_left; (· (intro w' hw'; go_simp; try with_reducible rfl)); simp only [Act.put, List.setIfInBounds_toArray, List.set_cons_zero, List.set_cons_succ]) | (refine wpP_skip rfl (by rfl) ?_; simp only [Act.put, List.setIfInBounds_toArray, List.set_cons_zero, List.set_cons_succ])
            refine wpP_one ?_
            refine wpP_loud rfl (by rfl) ?_
            intro K hK
            refine wp_store_fld _ _ _ rfl G 0 _ _ (coC vt9 vc9 cC) rfl _ rfl rfl bG (by rw [L9.out]; exact Nat.le_refl _) I9.out (coC_one o9t o9c) ?_
            intro V3 bG3 bu3
            refine hK.out _ _ (below_but bu3 hVG f2.size) ?_
            clear hK K
            try simp only [Act.put, List.setIfInBounds_toArray, List.set_cons_zero, List.set_cons_succ]
            first | (refine wpP_quiet (v := ?_) rfl (by rfl) ?_ ?_; rotate_left; (· (intro w' hw'; go_simp; try with_reducible rfl)); simp only [Act.put, List.setIfInBounds_toArray, List.set_cons_zero, List.set_cons_succ]) | (refine wpP_skip rfl (by rfl) ?_; simp only [Act.put, List.setIfInBounds_toArray, List.set_cons_zero, List.set_cons_succ])
            refine wpP_done ?_
            have f3 := f2.trans (below_but bu3 hVG f2.size)
            have dX := bX.to f3
            have dY := bY.to f3
            have yX := zX.to f3
            have yY := zY.to f3
            have ff := fg.trans (f3.mono fg.size)
            clear f3 f2 bu3 bG3 bG hVG hG
            go_wp2_with (first
              | (refine wpl_load_fld (by rfl) _ _ rfl wy4.heap.size 0 rfl (coC vt4 vc4 cM) _ dX.range Try.underlying30 rfl I4.out ?_)
              | (refine wpl_load_fld (by rfl) _ _ rfl wy5.heap.size 0 rfl (coC vt5 vc5 cM) _ dY.range Try.underlying30 rfl I5.out ?_))
            refine (sameC_any _ _ cM KM.out V3 yX yY).mono ?_
            rintro e wq ⟨rfl, hb⟩
            replace ff := ff.trans (hb.mono ff.size)
            go_wp2_with fail
            go_ret
            exact ⟨rfl, ff⟩
end Go.Proofs.Ytdopgooglicaiaa
