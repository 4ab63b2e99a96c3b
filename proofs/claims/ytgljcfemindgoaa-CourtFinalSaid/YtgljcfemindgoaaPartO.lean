/- The texts of this claim, part O: words, plain laws, walks. -/
import Derived.Test.YtgljcfemindgoaaPartM
import Derived.Test.YtgljcfemindgoaaPartL
import Derived.Test.YtgljcfemindgoaaPartN
/- The walk of capstanlaw17.CourtFinal. -/
set_option linter.unusedSimpArgs false
set_option linter.unusedVariables false
namespace Go.Proofs.Ytgljcfemindgoaa
open Go.RowKit
set_option maxRecDepth 100000
set_option maxRecDepth 100000 in
set_option maxHeartbeats 8000000 in
theorem courtFinal_walk (w : World) (wa : Int) (wa_lo : -9223372036854775808 ≤ wa) (wa_hi : wa < 9223372036854775808) (n : Int) (n_lo : -9223372036854775808 ≤ n) (n_hi : n < 9223372036854775808) :
    Calls Try.prog 4 #[.int .i64 wa, .int .i64 n] w (RB true w) := by
  obtain ⟨wt, hwt⟩ : ∃ q : Int, wa % 8 = q := ⟨_, rfl⟩
  obtain ⟨m, hm⟩ : ∃ m : Int, n % 5 = m := ⟨_, rfl⟩
  have hq8 : 0 ≤ wt ∧ wt < 8 := by omega
  have hm5 : 0 ≤ m ∧ m < 5 := by omega
  obtain ⟨N, hNN⟩ : ∃ N : Nat, 1 + m = (N : Int) := ⟨(1 + m).toNat, by omega⟩
  have hN : 1 ≤ N ∧ N ≤ 5 := by omega
  have HQ := Lib.hid hwt
  have HM := Lib.hid hm
  have HNN := Lib.hid hNN
  clear hwt hm hNN
  go_enter Try.func4, Try.ntmps4
  go_wp2_with fail
  refine (courtKnown_any w).mono ?_
  rintro e w1 ⟨rfl, ff⟩
  go_wp2_with fail
  refine (within_capstanlaw17 wa 8 w1 (by omega) (by omega) wa_lo wa_hi).mono ?_
  rintro e w1' ⟨rfl, rfl⟩
  rw [HQ.out]
  go_wp2_with fail
  refine (within_capstanlaw17 n 5 w1 (by omega) (by omega) n_lo n_hi).mono ?_
  rintro e w1' ⟨rfl, rfl⟩
  rw [HM.out]
  go_wp2_with (first
    | (refine wpl_build (by rfl) _ _ rfl _ (by exact builtC1) ?_))
  simp only [HNN.out]
  refine (newC_any (one_ 1) rfl 300 (by omega) (by omega) w1).mono ?_
  rintro en wy0 ⟨v0, rfl, hs, hb⟩
  change ∀ S : List Nat, _ → CoX S wy0 v0 (newCO 300) at hs
  obtain ⟨vt0, vc0, rfl, ht, hc⟩ := hs [] (fun _ h => by cases h)
  have o0t := ht.one
  have o0c := hc.one
  have I0 := Lib.hid (info_co (vt := vt0) (vc := vc0) (c := newCO 300) rfl rfl)
  have L0 : Hid ((coC vt0 vc0 (newCO 300)).length = 43) := Lib.hid (coC_len (c := newCO 300) rfl rfl)
  have x0 : CoX [] wy0 (.agg (coC vt0 vc0 (newCO 300)).toArray) (newCO 300) := ⟨vt0, vc0, rfl, ht, hc⟩
  replace ff := ff.trans (hb.mono ff.size)
  clear hs ht hc hb
  obtain ⟨C, hC⟩ : ∃ C, wy0.heap.size = C := ⟨_, rfl⟩
  have hwC : w.heap.size ≤ C := by rw [← hC]; exact ff.size
  have HC1 := Lib.hid hC
  clear hC
  go_wp2_with (first
    | (refine wpl_store_new rfl _ _ _ rfl 30 _ (coC vt0 vc0 (newCO 300)) rfl rfl (by rw [L0.out]; rfl) I0.out (coC_one o0t o0c) ?_
       intro wz0 dC hz
       simp only [Act.put, List.setIfInBounds_toArray, List.set_cons_zero, List.set_cons_succ]
       replace ff := ff.trans (hz.mono ff.size)
       have yC := x0.to hz
       clear hz x0
       rw [HC1.out] at dC ⊢))
  obtain ⟨cH, hcH⟩ : ∃ c, hallC 300 (hashL N) = c := ⟨_, rfl⟩
  have EH := Lib.hid hcH
  have KH : Hid cH.ok := (show cH.ok from by rw [← hcH]; exact hallC_ok 300 (hashL N) (hashL_all N) (by rw [hashL_len]; omega))
  clear hcH
  obtain ⟨cS, hcS⟩ : ∃ c, fnC N 0 200 300 1 [] = c := ⟨_, rfl⟩
  have EcS := Lib.hid hcS
  have KcS : Hid cS.ok := (show cS.ok from by rw [← hcS]; exact fnC_ok N hN.2 _ _ _ _ _ (fun s h => by cases h) (Nat.zero_le _))
  have LcS : Hid (cS.claims = [(fnX N 1 [])]) := (show _ = _ by rw [← hcS]; rfl)
  have NcS : Hid (cS.now = 0) := (show _ = _ by rw [← hcS]; rfl)
  have BcS : Hid (BkB 1000000 cS.bank) := (show BkB _ _ by rw [← hcS]; exact fn_bk _ _ ⟨by decide, by decide⟩ ⟨by decide, by decide⟩)
  have TcS : Hid (1 ≤ (N : Int) ∧ (N : Int) ≤ (cS.txs.length : Int) ∧ cS.txs.length ≤ 2048) := (show _ ∧ _ from by rw [← hcS]; show _ ∧ (N : Int) ≤ ((hashL N).length : Int) ∧ (hashL N).length ≤ 2048; rw [hashL_len]; omega)
  have V2cS : Hid (cS.bank.getD 2 0 = 200) := (show _ = _ by rw [← hcS]; rfl)
  have V3cS : Hid (cS.bank.getD 3 0 = 300) := (show _ = _ by rw [← hcS]; rfl)
  clear hcS
  refine wp_region_P (.take 1 (.two 0 (.one 2 (.one 3 (.take 4 (.take 5 (.take 6 (.one 7 .done)))))) 2 (.one 0 (.one 3 (.take 4 (.take 5 (.take 6 (.one 7 .done)))))))) (RBut (some C)) (by kernel_rfl) (by kernel_rfl) (by kernel_rfl) (by decide +kernel) (RBut.refl_ _) (RBut.trans_ _) (by intro d v c a w h; first | (cases d <;> exact h) | exact absurd h.1 (by simp)) ?_
  have bcv : Blk wz0.drew C 30 (coC vt0 vc0 (newCO 300)) := dC
  have hXv := yC.drew
  have fw := ff.drew
  clear dC yC ff
  generalize wz0.drew = V0 at *
  have fv : Below V0.heap.size V0 V0 := Below.refl _ _
  first | (refine wpP_quiet (v := ?_) rfl (by rfl) ?_ ?_; rotate_left; (· (intro w' hw'; go_simp; try with_reducible rfl)); simp only [Act.put, List.setIfInBounds_toArray, List.set_cons_zero, List.set_cons_succ]) | (refine wpP_skip rfl (by rfl) ?_; simp only [Act.put, List.setIfInBounds_toArray, List.set_cons_zero, List.set_cons_succ])
  refine wpP_two ?_ ?_
  · refine wpP_loud rfl (by rfl) ?_
    intro K hK
    refine wp_load_mid _ _ rfl C 0 rfl (coC vt0 vc0 (newCO 300)) _ bcv.range Try.underlying30 rfl I0.out ?_
    refine hK.out _ _ (RBut.refl_ _ _) ?_
    clear hK K
    try simp only [Act.put, List.setIfInBounds_toArray, List.set_cons_zero, List.set_cons_succ]
    refine wpP_one ?_
    refine wpP_loud rfl (by rfl) ?_
    intro K hK
    go_simp
    refine (hashes_any N _ (by omega)).mono ?_
    rintro en Vn ⟨Ah, ch, rfl, hoh, hbh⟩
    refine hK.out _ _ (RBut.of_below hbh) ?_
    clear hK K
    try simp only [Act.put, List.setIfInBounds_toArray, List.set_cons_zero, List.set_cons_succ]
    replace bcv := bcv.to hbh
    replace hXv := hXv.to hbh
    replace fv := fv.trans (hbh.mono fv.size)
    refine wpP_one ?_
    refine wpP_loud rfl (by rfl) ?_
    intro K hK
    go_simp
    refine (addC_any _ (newCO 300) (newCO_ok 300) Ah N ch (hashL N) (hashL_all N) Vn hoh.sl (hashL_len N) (by show 0 + N ≤ 500; omega) hXv).mono ?_
    rintro en Vm ⟨v3, rfl, hs3, hb3⟩
    rw [show ({ newCO 300 with txs := (newCO 300).txs ++ hashL N } : CO) = cH from EH.out] at hs3
    obtain ⟨vt3, vc3, rfl, ht3, hc3⟩ := hs3 [C] (fun b hb => by rw [List.mem_singleton.1 hb]; exact bcv.lt)
    refine hK.out _ _ (RBut.of_below hb3) ?_
    clear hK K
    try simp only [Act.put, List.setIfInBounds_toArray, List.set_cons_zero, List.set_cons_succ]
    replace bcv := bcv.to hb3
    replace fv := fv.trans (hb3.mono fv.size)
    have o3t := ht3.one
    have o3c := hc3.one
    have I3 := Lib.hid (info_co (vt := vt3) (vc := vc3) (c := cH) KH.out.pre KH.out.bank)
    have L3 : Hid ((coC vt3 vc3 cH).length = 43) := Lib.hid (coC_len (c := cH) KH.out.pre KH.out.bank)
    have x3 : CoX [C] Vm (.agg (coC vt3 vc3 cH).toArray) cH := ⟨vt3, vc3, rfl, ht3, hc3⟩
    clear hs3 ht3 hc3
    first | (refine wpP_quiet (v := ?_) rfl (by rfl) ?_ ?_; rotate_left; (· (intro w' hw'; go_simp; try with_reducible rfl)); simp only [Act.put, List.setIfInBounds_toArray, List.set_cons_zero, List.set_cons_succ]) | (refine wpP_skip rfl (by rfl) ?_; simp only [Act.put, List.setIfInBounds_toArray, List.set_cons_zero, List.set_cons_succ])
    first | (refine wpP_quiet (v := ?_) rfl (by rfl) ?_ ?_; rotate_left; (· (intro w' hw'; go_simp; try with_reducible rfl)); simp only [Act.put, List.setIfInBounds_toArray, List.set_cons_zero, List.set_cons_succ]) | (refine wpP_skip rfl (by rfl) ?_; simp only [Act.put, List.setIfInBounds_toArray, List.set_cons_zero, List.set_cons_succ])
    first | (refine wpP_quiet (v := ?_) rfl (by rfl) ?_ ?_; rotate_left; (· (intro w' hw'; go_simp; try with_reducible rfl)); simp only [Act.put, List.setIfInBounds_toArray, List.set_cons_zero, List.set_cons_succ]) | (refine wpP_skip rfl (by rfl) ?_; simp only [Act.put, List.setIfInBounds_toArray, List.set_cons_zero, List.set_cons_succ])
    refine wpP_one ?_
    refine wpP_loud rfl (by rfl) ?_
    intro K hK
    refine wp_store_fld _ _ _ rfl C 0 _ _ (coC vt3 vc3 cH) rfl _ rfl rfl bcv (by rw [L0.out, L3.out]; exact Nat.le_refl _) I3.out (coC_one o3t o3c) ?_
    intro V4 b4 bu4
    rw [put_all _ _ (by rw [L0.out, L3.out])] at b4
    refine hK.out _ _ bu4 ?_
    clear hK K
    try simp only [Act.put, List.setIfInBounds_toArray, List.set_cons_zero, List.set_cons_succ]
    refine wpP_done ?_
    have ff := (fw.trans (fv.mono fw.size)).trans (below_but bu4 hwC (Nat.le_trans fw.size fv.size))
    have yC := cell_next x3 bu4
    have dC := b4
    clear fw fv x3 bu4 b4 bcv hXv
    go_wp2_with (first
      | (refine wpl_load_fld (by rfl) _ _ rfl C 0 rfl (coC vt3 vc3 cH) _ dC.range Try.underlying30 rfl I3.out ?_)
      | (refine wpl_build (by rfl) _ _ rfl _ (by exact builtC5) ?_))
    refine (sayC_any _ cH KH.out 2 (N : Int) (one_ 5) rfl V4 (by rw [← EH.out]; show (0 : Nat) < 20; decide) yC (cS, 0) (.inr (.inr ⟨⟨by decide, by decide⟩, by omega, by rw [← EH.out]; show (N : Int) ≤ ((hashL N).length : Int); rw [hashL_len]; exact Int.le_refl _, by rw [← EH.out]; show (100 : Int) ≤ 300; decide, by rw [← EH.out]; show (300 : Int) ≤ 1000000; decide, by rw [← EcS.out, ← EH.out]; rfl⟩))).mono ?_
    rintro en wy4 ⟨v4, rfl, hs, hb⟩
    obtain ⟨vt4, vc4, rfl, ht, hc⟩ := hs [C] (fun b hb => by rw [List.mem_singleton.1 hb]; exact dC.lt)
    have o4t := ht.one
    have o4c := hc.one
    have I4 := Lib.hid (info_co (vt := vt4) (vc := vc4) (c := cS) KcS.out.pre KcS.out.bank)
    have L4 : Hid ((coC vt4 vc4 cS).length = 43) := Lib.hid (coC_len (c := cS) KcS.out.pre KcS.out.bank)
    have x4 : CoX [C] wy4 (.agg (coC vt4 vc4 cS).toArray) cS := ⟨vt4, vc4, rfl, ht, hc⟩
    clear hs ht hc
    replace dC := dC.to hb
    replace yC := yC.to hb
    replace ff := ff.trans (hb.mono ff.size)
    clear hb
    go_wp2_with (first
      | (refine wpl_store_fld (by rfl) _ _ _ rfl C 0 _ _ (coC vt4 vc4 cS) rfl _ rfl rfl dC (by rw [L3.out, L4.out]; exact Nat.le_refl _) I4.out (coC_one o4t o4c) ?_
         intro w5 dd uu
         rw [put_all _ _ (by rw [L3.out, L4.out])] at dd
         replace ff := ff.trans (below_but uu hwC ff.size)
         have yy := cell_next x4 uu
         clear dC yC uu x4
         have dC := dd
         have yC := yy
         clear dd yy)
      | (refine wpl_load_fld (by rfl) _ _ rfl C 0 rfl (coC vt4 vc4 cS) _ dC.range Try.underlying30 rfl I4.out ?_))
    by_cases h3 : 3 < wt
    · have t1 : wt > 3 := h3
      have t1d : decide (3 < wt) = true := decide_eq_true h3
      obtain ⟨cF, hcF⟩ : ∃ c, fnC N wt 300 300 2 [] = c := ⟨_, rfl⟩
      have EcF := Lib.hid hcF
      have KcF : Hid cF.ok := (show cF.ok from by rw [← hcF]; exact fnC_ok N hN.2 _ _ _ _ _ (fun s h => by cases h) (Nat.zero_le _))
      have LcF : Hid (cF.claims = [(fnX N 2 [])]) := (show _ = _ by rw [← hcF]; rfl)
      have NcF : Hid (cF.now = wt) := (show _ = _ by rw [← hcF]; rfl)
      have BcF : Hid (BkB 1000000 cF.bank) := (show BkB _ _ by rw [← hcF]; exact fn_bk _ _ ⟨by decide, by decide⟩ ⟨by decide, by decide⟩)
      have TcF : Hid (1 ≤ (N : Int) ∧ (N : Int) ≤ (cF.txs.length : Int) ∧ cF.txs.length ≤ 2048) := (show _ ∧ _ from by rw [← hcF]; show _ ∧ (N : Int) ≤ ((hashL N).length : Int) ∧ (hashL N).length ≤ 2048; rw [hashL_len]; omega)
      have V2cF : Hid (cF.bank.getD 2 0 = 300) := (show _ = _ by rw [← hcF]; rfl)
      have V3cF : Hid (cF.bank.getD 3 0 = 300) := (show _ = _ by rw [← hcF]; rfl)
      clear hcF
      refine (next0_any _ cS KcS.out (fnX N 1 []) LcS.out rfl wt (by omega) (by rw [NcS.out]; decide) ⟨by show (0 : Int) ≤ 0; decide, by show (0 : Int) ≤ 1000; decide⟩ 2 (by decide) rfl (by rw [V2cS.out]; decide) w5 yC).mono ?_
      rw [show next0 cS (fnX N 1 []) 2 wt = cF from by rw [← EcS.out, ← EcF.out, fn_late N wt h3, Int.zero_add]]
      rintro en wy5 ⟨v5, rfl, hs, hb⟩
      obtain ⟨vt5, vc5, rfl, ht, hc⟩ := hs [C] (fun b hb => by rw [List.mem_singleton.1 hb]; exact dC.lt)
      have o5t := ht.one
      have o5c := hc.one
      have I5 := Lib.hid (info_co (vt := vt5) (vc := vc5) (c := cF) KcF.out.pre KcF.out.bank)
      have L5 : Hid ((coC vt5 vc5 cF).length = 43) := Lib.hid (coC_len (c := cF) KcF.out.pre KcF.out.bank)
      have x5 : CoX [C] wy5 (.agg (coC vt5 vc5 cF).toArray) cF := ⟨vt5, vc5, rfl, ht, hc⟩
      clear hs ht hc
      replace dC := dC.to hb
      replace yC := yC.to hb
      replace ff := ff.trans (hb.mono ff.size)
      clear hb
      go_wp2_with (first
        | (refine wpl_store_fld (by rfl) _ _ _ rfl C 0 _ _ (coC vt5 vc5 cF) rfl _ rfl rfl dC (by rw [L4.out, L5.out]; exact Nat.le_refl _) I5.out (coC_one o5t o5c) ?_
           intro w6 dd uu
           rw [put_all _ _ (by rw [L4.out, L5.out])] at dd
           replace ff := ff.trans (below_but uu hwC ff.size)
           have yy := cell_next x5 uu
           clear dC yC uu x5
           have dC := dd
           have yC := yy
           clear dd yy)
        | (refine wpl_load_fld (by rfl) _ _ rfl C 0 rfl (coC vt5 vc5 cF) _ dC.range Try.underlying30 rfl I5.out ?_))
      obtain ⟨bC, oC, cC, vsC, rfl, sC, _⟩ := yC.one_ KcF.out.pre KcF.out.bank LcF.out
      refine (sueC_any _ cF KcF.out (fnX N 2 []) LcF.out TcF.out (by rw [NcF.out]; omega) ⟨by show (0 : Int) ≤ 0; decide, by show (0 : Int) ≤ 1000; decide⟩ BcF.out.2 (by show (0 : Nat) < 4096; decide) 3 0 w6 yC).mono ?_
      rw [show sueR cF (fnX N 2 []) 3 0 = (cF, 18) from by rw [← EcF.out]; exact fn_sue18 N wt 300 300]
      rintro en wy6 ⟨v6, rfl, hs, hb⟩
      obtain ⟨vt6, vc6, rfl, ht, hc⟩ := hs [] (fun _ h => by cases h)
      have o6t := ht.one
      have o6c := hc.one
      have I6 := Lib.hid (info_co (vt := vt6) (vc := vc6) (c := cF) KcF.out.pre KcF.out.bank)
      have L6 : Hid ((coC vt6 vc6 cF).length = 43) := Lib.hid (coC_len (c := cF) KcF.out.pre KcF.out.bank)
      have x6 : CoX [] wy6 (.agg (coC vt6 vc6 cF).toArray) cF := ⟨vt6, vc6, rfl, ht, hc⟩
      clear hs ht hc
      replace dC := dC.to hb
      replace yC := yC.to hb
      replace sC := sC.to hb
      replace ff := ff.trans (hb.mono ff.size)
      clear hb
      go_wp2_with (first
        | (refine wpl_store_new rfl _ _ _ rfl 30 _ (coC vt6 vc6 cF) rfl rfl (by rw [L6.out]; rfl) I6.out (coC_one o6t o6c) ?_
           intro wz6 dD hz
           simp only [Act.put, List.setIfInBounds_toArray, List.set_cons_zero, List.set_cons_succ]
           replace dC := dC.to hz
           replace yC := yC.to hz
           replace sC := sC.to hz
           replace ff := ff.trans (hz.mono ff.size)
           have yD := x6.to hz
           clear hz x6
           have k42C : wz6.cell? ⟨C, 42, none⟩ = some (.slice (some ⟨bC, oC, none⟩) 1 cC) := by rw [dC.cell]; exact co_claims KcF.out.pre KcF.out.bank
           have k3C : wz6.cell? ⟨bC, oC + 3, none⟩ = some (.int .i64 2) := sC.cell (cl_st (x := fnX N 2 []))
           have kb2C : wz6.cell? ⟨C, 36, none⟩ = some (.int .i64 300) := by rw [dC.cell, ← V2cF.out]; exact co_bank KcF.out.pre KcF.out.bank 2 (by decide)
           have kb3C : wz6.cell? ⟨C, 37, none⟩ = some (.int .i64 300) := by rw [dC.cell, ← V3cF.out]; exact co_bank KcF.out.pre KcF.out.bank 3 (by decide))
        | (refine wpl_load_fld (by rfl) _ _ rfl C 0 rfl (coC vt5 (.slice (some ⟨bC, oC, none⟩) 1 cC) cF) _ dC.range Try.underlying30 rfl I5.out ?_)
        | (refine wpl_load_fld (by rfl) _ _ rfl wy6.heap.size 0 rfl (coC vt6 vc6 cF) _ dD.range Try.underlying30 rfl I6.out ?_))
      refine (sameC_any _ _ cF KcF.out wz6 yC yD).mono ?_
      rintro e wq ⟨rfl, hb⟩
      replace dC := dC.to hb
      have kq := kb2C
      have kb9 : wq.cell? ⟨C, 36, none⟩ = some (.int .i64 300) := by rw [dC.cell, ← V2cF.out]; exact co_bank KcF.out.pre KcF.out.bank 2 (by decide)
      replace ff := ff.trans (hb.mono ff.size)
      clear kb2C kq kb3C k3C k42C
      go_wp2_with fail
      go_ret
      exact ⟨rfl, ff⟩
    · have t1 : ¬ wt > 3 := h3
      have t1d : decide (3 < wt) = false := decide_eq_false h3
      have H3 := Lib.hid h3
      obtain ⟨cG, hcG⟩ : ∃ c, fnC N wt 200 300 1 [] = c := ⟨_, rfl⟩
      have EcG := Lib.hid hcG
      have KcG : Hid cG.ok := (show cG.ok from by rw [← hcG]; exact fnC_ok N hN.2 _ _ _ _ _ (fun s h => by cases h) (Nat.zero_le _))
      have LcG : Hid (cG.claims = [(fnX N 1 [])]) := (show _ = _ by rw [← hcG]; rfl)
      have NcG : Hid (cG.now = wt) := (show _ = _ by rw [← hcG]; rfl)
      have BcG : Hid (BkB 1000000 cG.bank) := (show BkB _ _ by rw [← hcG]; exact fn_bk _ _ ⟨by decide, by decide⟩ ⟨by decide, by decide⟩)
      have TcG : Hid (1 ≤ (N : Int) ∧ (N : Int) ≤ (cG.txs.length : Int) ∧ cG.txs.length ≤ 2048) := (show _ ∧ _ from by rw [← hcG]; show _ ∧ (N : Int) ≤ ((hashL N).length : Int) ∧ (hashL N).length ≤ 2048; rw [hashL_len]; omega)
      have V2cG : Hid (cG.bank.getD 2 0 = 200) := (show _ = _ by rw [← hcG]; rfl)
      have V3cG : Hid (cG.bank.getD 3 0 = 300) := (show _ = _ by rw [← hcG]; rfl)
      clear hcG
      obtain ⟨cD, hcD⟩ : ∃ c, fnC N wt 200 200 1 [fnS N (fnG N wt)] = c := ⟨_, rfl⟩
      have EcD := Lib.hid hcD
      have KcD : Hid cD.ok := (show cD.ok from by rw [← hcD]; exact fnC_ok N hN.2 _ _ _ _ _ (fun s h => by rw [List.mem_singleton.1 h]; exact fnS_ok N hN.2 _ ⟨rfl, rfl, rfl⟩) (by show [_].length ≤ 4096; simp))
      have LcD : Hid (cD.claims = [(fnX N 1 [fnS N (fnG N wt)])]) := (show _ = _ by rw [← hcD]; rfl)
      have NcD : Hid (cD.now = wt) := (show _ = _ by rw [← hcD]; rfl)
      have BcD : Hid (BkB 1000000 cD.bank) := (show BkB _ _ by rw [← hcD]; exact fn_bk _ _ ⟨by decide, by decide⟩ ⟨by decide, by decide⟩)
      have TcD : Hid (1 ≤ (N : Int) ∧ (N : Int) ≤ (cD.txs.length : Int) ∧ cD.txs.length ≤ 2048) := (show _ ∧ _ from by rw [← hcD]; show _ ∧ (N : Int) ≤ ((hashL N).length : Int) ∧ (hashL N).length ≤ 2048; rw [hashL_len]; omega)
      have V2cD : Hid (cD.bank.getD 2 0 = 200) := (show _ = _ by rw [← hcD]; rfl)
      have V3cD : Hid (cD.bank.getD 3 0 = 200) := (show _ = _ by rw [← hcD]; rfl)
      clear hcD
      obtain ⟨cE, hcE⟩ : ∃ c, fnC N (wt + 50) 200 400 3 [fnS N (overD (fnG N wt) false)] = c := ⟨_, rfl⟩
      have EcE := Lib.hid hcE
      have KcE : Hid cE.ok := (show cE.ok from by rw [← hcE]; exact fnC_ok N hN.2 _ _ _ _ _ (fun s h => by rw [List.mem_singleton.1 h]; exact fnS_ok N hN.2 _ ⟨rfl, rfl, rfl⟩) (by show [_].length ≤ 4096; simp))
      have LcE : Hid (cE.claims = [(fnX N 3 [fnS N (overD (fnG N wt) false)])]) := (show _ = _ by rw [← hcE]; rfl)
      have NcE : Hid (cE.now = (wt + 50)) := (show _ = _ by rw [← hcE]; rfl)
      have BcE : Hid (BkB 1000000 cE.bank) := (show BkB _ _ by rw [← hcE]; exact fn_bk _ _ ⟨by decide, by decide⟩ ⟨by decide, by decide⟩)
      have TcE : Hid (1 ≤ (N : Int) ∧ (N : Int) ≤ (cE.txs.length : Int) ∧ cE.txs.length ≤ 2048) := (show _ ∧ _ from by rw [← hcE]; show _ ∧ (N : Int) ≤ ((hashL N).length : Int) ∧ (hashL N).length ≤ 2048; rw [hashL_len]; omega)
      have V2cE : Hid (cE.bank.getD 2 0 = 200) := (show _ = _ by rw [← hcE]; rfl)
      have V3cE : Hid (cE.bank.getD 3 0 = 400) := (show _ = _ by rw [← hcE]; rfl)
      clear hcE
      refine (next0_any _ cS KcS.out (fnX N 1 []) LcS.out rfl wt (by omega) (by rw [NcS.out]; decide) ⟨by show (0 : Int) ≤ 0; decide, by show (0 : Int) ≤ 1000; decide⟩ 2 (by decide) rfl (by rw [V2cS.out]; decide) w5 yC).mono ?_
      rw [show next0 cS (fnX N 1 []) 2 wt = cG from by rw [← EcS.out, ← EcG.out, fn_soon N wt h3, Int.zero_add]]
      rintro en wy5 ⟨v5, rfl, hs, hb⟩
      obtain ⟨vt5, vc5, rfl, ht, hc⟩ := hs [C] (fun b hb => by rw [List.mem_singleton.1 hb]; exact dC.lt)
      have o5t := ht.one
      have o5c := hc.one
      have I5 := Lib.hid (info_co (vt := vt5) (vc := vc5) (c := cG) KcG.out.pre KcG.out.bank)
      have L5 : Hid ((coC vt5 vc5 cG).length = 43) := Lib.hid (coC_len (c := cG) KcG.out.pre KcG.out.bank)
      have x5 : CoX [C] wy5 (.agg (coC vt5 vc5 cG).toArray) cG := ⟨vt5, vc5, rfl, ht, hc⟩
      clear hs ht hc
      replace dC := dC.to hb
      replace yC := yC.to hb
      replace ff := ff.trans (hb.mono ff.size)
      clear hb
      go_wp2_with (first
        | (refine wpl_store_fld (by rfl) _ _ _ rfl C 0 _ _ (coC vt5 vc5 cG) rfl _ rfl rfl dC (by rw [L4.out, L5.out]; exact Nat.le_refl _) I5.out (coC_one o5t o5c) ?_
           intro w6 dd uu
           rw [put_all _ _ (by rw [L4.out, L5.out])] at dd
           replace ff := ff.trans (below_but uu hwC ff.size)
           have yy := cell_next x5 uu
           clear dC yC uu x5
           have dC := dd
           have yC := yy
           clear dd yy)
        | (refine wpl_load_fld (by rfl) _ _ rfl C 0 rfl (coC vt5 vc5 cG) _ dC.range Try.underlying30 rfl I5.out ?_))
      obtain ⟨bC, oC, cC, vsC, rfl, sC, _⟩ := yC.one_ KcG.out.pre KcG.out.bank LcG.out
      refine (sueC_any _ cG KcG.out (fnX N 1 []) LcG.out TcG.out (by rw [NcG.out]; omega) ⟨by show (0 : Int) ≤ 0; decide, by show (0 : Int) ≤ 1000; decide⟩ BcG.out.2 (by show (0 : Nat) < 4096; decide) 3 0 w6 yC).mono ?_
      rw [show sueR cG (fnX N 1 []) 3 0 = (cD, 0) from by rw [← EcG.out, ← EcD.out]; exact fn_sue N wt (by have := H3.out; omega)]
      rintro en wy6 ⟨v6, rfl, hs, hb⟩
      obtain ⟨vt6, vc6, rfl, ht, hc⟩ := hs [] (fun _ h => by cases h)
      have o6t := ht.one
      have o6c := hc.one
      have I6 := Lib.hid (info_co (vt := vt6) (vc := vc6) (c := cD) KcD.out.pre KcD.out.bank)
      have L6 : Hid ((coC vt6 vc6 cD).length = 43) := Lib.hid (coC_len (c := cD) KcD.out.pre KcD.out.bank)
      have x6 : CoX [] wy6 (.agg (coC vt6 vc6 cD).toArray) cD := ⟨vt6, vc6, rfl, ht, hc⟩
      clear hs ht hc
      replace dC := dC.to hb
      replace yC := yC.to hb
      replace sC := sC.to hb
      replace ff := ff.trans (hb.mono ff.size)
      clear hb
      go_wp2_with (first
        | (refine wpl_store_new rfl _ _ _ rfl 30 _ (coC vt6 vc6 cD) rfl rfl (by rw [L6.out]; rfl) I6.out (coC_one o6t o6c) ?_
           intro wz6 dD hz
           simp only [Act.put, List.setIfInBounds_toArray, List.set_cons_zero, List.set_cons_succ]
           replace dC := dC.to hz
           replace yC := yC.to hz
           replace sC := sC.to hz
           replace ff := ff.trans (hz.mono ff.size)
           have yD := x6.to hz
           clear hz x6)
        | (refine wpl_load_fld (by rfl) _ _ rfl wy6.heap.size 0 rfl (coC vt6 vc6 cD) _ dD.range Try.underlying30 rfl I6.out ?_))
      refine (sueC_any _ cD KcD.out (fnX N 1 [fnS N (fnG N wt)]) LcD.out TcD.out (by rw [NcD.out]; omega) ⟨by show (0 : Int) ≤ 0; decide, by show (0 : Int) ≤ 1000; decide⟩ BcD.out.2 (by show (1 : Nat) < 4096; decide) 3 0 wz6 yD).mono ?_
      rw [show sueR cD (fnX N 1 [fnS N (fnG N wt)]) 3 0 = (cD, 7) from by rw [← EcD.out]; exact fn_sue7 N wt (by have := H3.out; omega)]
      rintro en wy7 ⟨v7, rfl, hs, hb⟩
      obtain ⟨vt7, vc7, rfl, ht, hc⟩ := hs [] (fun _ h => by cases h)
      have o7t := ht.one
      have o7c := hc.one
      have I7 := Lib.hid (info_co (vt := vt7) (vc := vc7) (c := cD) KcD.out.pre KcD.out.bank)
      have L7 : Hid ((coC vt7 vc7 cD).length = 43) := Lib.hid (coC_len (c := cD) KcD.out.pre KcD.out.bank)
      have x7 : CoX [] wy7 (.agg (coC vt7 vc7 cD).toArray) cD := ⟨vt7, vc7, rfl, ht, hc⟩
      clear hs ht hc
      replace dC := dC.to hb
      replace yC := yC.to hb
      replace dD := dD.to hb
      replace yD := yD.to hb
      replace sC := sC.to hb
      replace ff := ff.trans (hb.mono ff.size)
      clear hb
      go_wp2_with (first
        | (refine wpl_store_new rfl _ _ _ rfl 30 _ (coC vt7 vc7 cD) rfl rfl (by rw [L7.out]; rfl) I7.out (coC_one o7t o7c) ?_
           intro wz7 dG hz
           simp only [Act.put, List.setIfInBounds_toArray, List.set_cons_zero, List.set_cons_succ]
           replace dC := dC.to hz
           replace yC := yC.to hz
           replace dD := dD.to hz
           replace yD := yD.to hz
           replace sC := sC.to hz
           replace ff := ff.trans (hz.mono ff.size)
           have yG := x7.to hz
           clear hz x7
           clear dG yG)
        | (refine wpl_load_fld (by rfl) _ _ rfl wy6.heap.size 0 rfl (coC vt6 vc6 cD) _ dD.range Try.underlying30 rfl I6.out ?_))
      refine (nextM_any _ cD KcD.out (fnX N 1 [fnS N (fnG N wt)]) LcD.out (by show [_] ≠ []; simp) (fun y hy => by rw [List.mem_singleton.1 hy]; show (hashL N).take N ≠ []; intro h; have := congrArg List.length h; rw [List.length_take, hashL_len] at this; simp at this; omega) 50 (by decide) (by rw [NcD.out]; omega) ⟨by show (0 : Int) ≤ 0; decide, by show (0 : Int) ≤ 1000; decide⟩ ⟨by show (0 : Int) ≤ 2; decide, by show (2 : Int) < 8; decide⟩ (fun y hy => by rw [List.mem_singleton.1 hy]; exact ⟨by show (0 : Int) ≤ 3; decide, by show (3 : Int) < 8; decide⟩) BcD.out wz7 yD).mono ?_
      rw [show nextM cD (fnX N 1 [fnS N (fnG N wt)]) 50 = cE from by rw [← EcD.out, ← EcE.out]; exact fn_next N wt hq8.1 (by have := H3.out; omega)]
      rintro en wy8 ⟨v8, rfl, hs, hb⟩
      obtain ⟨vt8, vc8, rfl, ht, hc⟩ := hs [] (fun _ h => by cases h)
      have o8t := ht.one
      have o8c := hc.one
      have I8 := Lib.hid (info_co (vt := vt8) (vc := vc8) (c := cE) KcE.out.pre KcE.out.bank)
      have L8 : Hid ((coC vt8 vc8 cE).length = 43) := Lib.hid (coC_len (c := cE) KcE.out.pre KcE.out.bank)
      have x8 : CoX [] wy8 (.agg (coC vt8 vc8 cE).toArray) cE := ⟨vt8, vc8, rfl, ht, hc⟩
      clear hs ht hc
      replace dC := dC.to hb
      replace yC := yC.to hb
      replace dD := dD.to hb
      replace yD := yD.to hb
      replace sC := sC.to hb
      replace ff := ff.trans (hb.mono ff.size)
      clear hb
      obtain ⟨bX, oX, cX, vsX, rfl, sX, _⟩ := x8.one_ KcE.out.pre KcE.out.bank LcE.out
      clear dD yD
      go_upto_region 15 with (first
        | (refine wpl_store_new rfl _ _ _ rfl 30 _ (coC vt8 (.slice (some ⟨bX, oX, none⟩) 1 cX) cE) rfl rfl (by rw [L8.out]; rfl) I8.out (coC_one o8t o8c) ?_
           intro wz8 dX hz
           simp only [Act.put, List.setIfInBounds_toArray, List.set_cons_zero, List.set_cons_succ]
           replace dC := dC.to hz
           replace yC := yC.to hz
           replace sC := sC.to hz
           replace sX := sX.to hz
           replace ff := ff.trans (hz.mono ff.size)
           have yX := x8.to hz
           clear hz x8
           have k42C : wz8.cell? ⟨C, 42, none⟩ = some (.slice (some ⟨bC, oC, none⟩) 1 cC) := by rw [dC.cell]; exact co_claims KcG.out.pre KcG.out.bank
           have k3C : wz8.cell? ⟨bC, oC + 3, none⟩ = some (.int .i64 1) := sC.cell (cl_st (x := fnX N 1 []))
           have kb2C : wz8.cell? ⟨C, 36, none⟩ = some (.int .i64 200) := by rw [dC.cell, ← V2cG.out]; exact co_bank KcG.out.pre KcG.out.bank 2 (by decide)
           have kb3C : wz8.cell? ⟨C, 37, none⟩ = some (.int .i64 300) := by rw [dC.cell, ← V3cG.out]; exact co_bank KcG.out.pre KcG.out.bank 3 (by decide)
           have k42X : wz8.cell? ⟨wy8.heap.size, 42, none⟩ = some (.slice (some ⟨bX, oX, none⟩) 1 cX) := by rw [dX.cell]; exact co_claims KcE.out.pre KcE.out.bank
           have k3X : wz8.cell? ⟨bX, oX + 3, none⟩ = some (.int .i64 3) := sX.cell (cl_st (x := fnX N 3 [fnS N (overD (fnG N wt) false)]))
           have kb2X : wz8.cell? ⟨wy8.heap.size, 36, none⟩ = some (.int .i64 200) := by rw [dX.cell, ← V2cE.out]; exact co_bank KcE.out.pre KcE.out.bank 2 (by decide)
           have kb3X : wz8.cell? ⟨wy8.heap.size, 37, none⟩ = some (.int .i64 400) := by rw [dX.cell, ← V3cE.out]; exact co_bank KcE.out.pre KcE.out.bank 3 (by decide)))
      clear o4t o4c o5t o5c o6t o6c o7t o7c o8t o8c L4 L5 L6 L7 L8 I4 I5 I6 I7 I8 t1d
      repeat (first | go_values | go_skip | go_guarded | go_step | go_upon | go_back)
      go_ret
      exact ⟨rfl, ff⟩
  · refine wpP_loud rfl (by rfl) ?_
    intro K hK
    go_simp
    refine (hashes_any N _ (by omega)).mono ?_
    rintro en Vn ⟨Ah, ch, rfl, hoh, hbh⟩
    refine hK.out _ _ (RBut.of_below hbh) ?_
    clear hK K
    try simp only [Act.put, List.setIfInBounds_toArray, List.set_cons_zero, List.set_cons_succ]
    replace bcv := bcv.to hbh
    replace hXv := hXv.to hbh
    replace fv := fv.trans (hbh.mono fv.size)
    refine wpP_one ?_
    refine wpP_loud rfl (by rfl) ?_
    intro K hK
    refine wp_load_mid _ _ rfl C 0 rfl (coC vt0 vc0 (newCO 300)) _ bcv.range Try.underlying30 rfl I0.out ?_
    refine hK.out _ _ (RBut.refl_ _ _) ?_
    clear hK K
    try simp only [Act.put, List.setIfInBounds_toArray, List.set_cons_zero, List.set_cons_succ]
    refine wpP_one ?_
    refine wpP_loud rfl (by rfl) ?_
    intro K hK
    go_simp
    refine (addC_any _ (newCO 300) (newCO_ok 300) Ah N ch (hashL N) (hashL_all N) Vn hoh.sl (hashL_len N) (by show 0 + N ≤ 500; omega) hXv).mono ?_
    rintro en Vm ⟨v3, rfl, hs3, hb3⟩
    rw [show ({ newCO 300 with txs := (newCO 300).txs ++ hashL N } : CO) = cH from EH.out] at hs3
    obtain ⟨vt3, vc3, rfl, ht3, hc3⟩ := hs3 [C] (fun b hb => by rw [List.mem_singleton.1 hb]; exact bcv.lt)
    refine hK.out _ _ (RBut.of_below hb3) ?_
    clear hK K
    try simp only [Act.put, List.setIfInBounds_toArray, List.set_cons_zero, List.set_cons_succ]
    replace bcv := bcv.to hb3
    replace fv := fv.trans (hb3.mono fv.size)
    have o3t := ht3.one
    have o3c := hc3.one
    have I3 := Lib.hid (info_co (vt := vt3) (vc := vc3) (c := cH) KH.out.pre KH.out.bank)
    have L3 : Hid ((coC vt3 vc3 cH).length = 43) := Lib.hid (coC_len (c := cH) KH.out.pre KH.out.bank)
    have x3 : CoX [C] Vm (.agg (coC vt3 vc3 cH).toArray) cH := ⟨vt3, vc3, rfl, ht3, hc3⟩
    clear hs3 ht3 hc3
    first | (refine wpP_quiet (v := ?_) rfl (by rfl) ?_ ?_; rotate_left; (· (intro w' hw'; go_simp; try with_reducible rfl)); simp only [Act.put, List.setIfInBounds_toArray, List.set_cons_zero, List.set_cons_succ]) | (refine wpP_skip rfl (by rfl) ?_; simp only [Act.put, List.setIfInBounds_toArray, List.set_cons_zero, List.set_cons_succ])
    first | (refine wpP_quiet (v := ?_) rfl (by rfl) ?_ ?_; rotate_left; (· (intro w' hw'; go_simp; try with_reducible rfl)); simp only [Act.put, List.setIfInBounds_toArray, List.set_cons_zero, List.set_cons_succ]) | (refine wpP_skip rfl (by rfl) ?_; simp only [Act.put, List.setIfInBounds_toArray, List.set_cons_zero, List.set_cons_succ])
    first | (refine wpP_quiet (v := ?_) rfl (by rfl) ?_ ?_; rotate_left; (· (intro w' hw'; go_simp; try with_reducible rfl)); simp only [Act.put, List.setIfInBounds_toArray, List.set_cons_zero, List.set_cons_succ]) | (refine wpP_skip rfl (by rfl) ?_; simp only [Act.put, List.setIfInBounds_toArray, List.set_cons_zero, List.set_cons_succ])
    refine wpP_one ?_
    refine wpP_loud rfl (by rfl) ?_
    intro K hK
    refine wp_store_fld _ _ _ rfl C 0 _ _ (coC vt3 vc3 cH) rfl _ rfl rfl bcv (by rw [L0.out, L3.out]; exact Nat.le_refl _) I3.out (coC_one o3t o3c) ?_
    intro V4 b4 bu4
    rw [put_all _ _ (by rw [L0.out, L3.out])] at b4
    refine hK.out _ _ bu4 ?_
    clear hK K
    try simp only [Act.put, List.setIfInBounds_toArray, List.set_cons_zero, List.set_cons_succ]
    refine wpP_done ?_
    have ff := (fw.trans (fv.mono fw.size)).trans (below_but bu4 hwC (Nat.le_trans fw.size fv.size))
    have yC := cell_next x3 bu4
    have dC := b4
    clear fw fv x3 bu4 b4 bcv hXv
    go_wp2_with (first
      | (refine wpl_load_fld (by rfl) _ _ rfl C 0 rfl (coC vt3 vc3 cH) _ dC.range Try.underlying30 rfl I3.out ?_)
      | (refine wpl_build (by rfl) _ _ rfl _ (by exact builtC5) ?_))
    refine (sayC_any _ cH KH.out 2 (N : Int) (one_ 5) rfl V4 (by rw [← EH.out]; show (0 : Nat) < 20; decide) yC (cS, 0) (.inr (.inr ⟨⟨by decide, by decide⟩, by omega, by rw [← EH.out]; show (N : Int) ≤ ((hashL N).length : Int); rw [hashL_len]; exact Int.le_refl _, by rw [← EH.out]; show (100 : Int) ≤ 300; decide, by rw [← EH.out]; show (300 : Int) ≤ 1000000; decide, by rw [← EcS.out, ← EH.out]; rfl⟩))).mono ?_
    rintro en wy4 ⟨v4, rfl, hs, hb⟩
    obtain ⟨vt4, vc4, rfl, ht, hc⟩ := hs [C] (fun b hb => by rw [List.mem_singleton.1 hb]; exact dC.lt)
    have o4t := ht.one
    have o4c := hc.one
    have I4 := Lib.hid (info_co (vt := vt4) (vc := vc4) (c := cS) KcS.out.pre KcS.out.bank)
    have L4 : Hid ((coC vt4 vc4 cS).length = 43) := Lib.hid (coC_len (c := cS) KcS.out.pre KcS.out.bank)
    have x4 : CoX [C] wy4 (.agg (coC vt4 vc4 cS).toArray) cS := ⟨vt4, vc4, rfl, ht, hc⟩
    clear hs ht hc
    replace dC := dC.to hb
    replace yC := yC.to hb
    replace ff := ff.trans (hb.mono ff.size)
    clear hb
    go_wp2_with (first
      | (refine wpl_store_fld (by rfl) _ _ _ rfl C 0 _ _ (coC vt4 vc4 cS) rfl _ rfl rfl dC (by rw [L3.out, L4.out]; exact Nat.le_refl _) I4.out (coC_one o4t o4c) ?_
         intro w5 dd uu
         rw [put_all _ _ (by rw [L3.out, L4.out])] at dd
         replace ff := ff.trans (below_but uu hwC ff.size)
         have yy := cell_next x4 uu
         clear dC yC uu x4
         have dC := dd
         have yC := yy
         clear dd yy)
      | (refine wpl_load_fld (by rfl) _ _ rfl C 0 rfl (coC vt4 vc4 cS) _ dC.range Try.underlying30 rfl I4.out ?_))
    by_cases h3 : 3 < wt
    · have t1 : wt > 3 := h3
      have t1d : decide (3 < wt) = true := decide_eq_true h3
      obtain ⟨cF, hcF⟩ : ∃ c, fnC N wt 300 300 2 [] = c := ⟨_, rfl⟩
      have EcF := Lib.hid hcF
      have KcF : Hid cF.ok := (show cF.ok from by rw [← hcF]; exact fnC_ok N hN.2 _ _ _ _ _ (fun s h => by cases h) (Nat.zero_le _))
      have LcF : Hid (cF.claims = [(fnX N 2 [])]) := (show _ = _ by rw [← hcF]; rfl)
      have NcF : Hid (cF.now = wt) := (show _ = _ by rw [← hcF]; rfl)
      have BcF : Hid (BkB 1000000 cF.bank) := (show BkB _ _ by rw [← hcF]; exact fn_bk _ _ ⟨by decide, by decide⟩ ⟨by decide, by decide⟩)
      have TcF : Hid (1 ≤ (N : Int) ∧ (N : Int) ≤ (cF.txs.length : Int) ∧ cF.txs.length ≤ 2048) := (show _ ∧ _ from by rw [← hcF]; show _ ∧ (N : Int) ≤ ((hashL N).length : Int) ∧ (hashL N).length ≤ 2048; rw [hashL_len]; omega)
      have V2cF : Hid (cF.bank.getD 2 0 = 300) := (show _ = _ by rw [← hcF]; rfl)
      have V3cF : Hid (cF.bank.getD 3 0 = 300) := (show _ = _ by rw [← hcF]; rfl)
      clear hcF
      refine (next0_any _ cS KcS.out (fnX N 1 []) LcS.out rfl wt (by omega) (by rw [NcS.out]; decide) ⟨by show (0 : Int) ≤ 0; decide, by show (0 : Int) ≤ 1000; decide⟩ 2 (by decide) rfl (by rw [V2cS.out]; decide) w5 yC).mono ?_
      rw [show next0 cS (fnX N 1 []) 2 wt = cF from by rw [← EcS.out, ← EcF.out, fn_late N wt h3, Int.zero_add]]
      rintro en wy5 ⟨v5, rfl, hs, hb⟩
      obtain ⟨vt5, vc5, rfl, ht, hc⟩ := hs [C] (fun b hb => by rw [List.mem_singleton.1 hb]; exact dC.lt)
      have o5t := ht.one
      have o5c := hc.one
      have I5 := Lib.hid (info_co (vt := vt5) (vc := vc5) (c := cF) KcF.out.pre KcF.out.bank)
      have L5 : Hid ((coC vt5 vc5 cF).length = 43) := Lib.hid (coC_len (c := cF) KcF.out.pre KcF.out.bank)
      have x5 : CoX [C] wy5 (.agg (coC vt5 vc5 cF).toArray) cF := ⟨vt5, vc5, rfl, ht, hc⟩
      clear hs ht hc
      replace dC := dC.to hb
      replace yC := yC.to hb
      replace ff := ff.trans (hb.mono ff.size)
      clear hb
      go_wp2_with (first
        | (refine wpl_store_fld (by rfl) _ _ _ rfl C 0 _ _ (coC vt5 vc5 cF) rfl _ rfl rfl dC (by rw [L4.out, L5.out]; exact Nat.le_refl _) I5.out (coC_one o5t o5c) ?_
           intro w6 dd uu
           rw [put_all _ _ (by rw [L4.out, L5.out])] at dd
           replace ff := ff.trans (below_but uu hwC ff.size)
           have yy := cell_next x5 uu
           clear dC yC uu x5
           have dC := dd
           have yC := yy
           clear dd yy)
        | (refine wpl_load_fld (by rfl) _ _ rfl C 0 rfl (coC vt5 vc5 cF) _ dC.range Try.underlying30 rfl I5.out ?_))
      obtain ⟨bC, oC, cC, vsC, rfl, sC, _⟩ := yC.one_ KcF.out.pre KcF.out.bank LcF.out
      refine (sueC_any _ cF KcF.out (fnX N 2 []) LcF.out TcF.out (by rw [NcF.out]; omega) ⟨by show (0 : Int) ≤ 0; decide, by show (0 : Int) ≤ 1000; decide⟩ BcF.out.2 (by show (0 : Nat) < 4096; decide) 3 0 w6 yC).mono ?_
      rw [show sueR cF (fnX N 2 []) 3 0 = (cF, 18) from by rw [← EcF.out]; exact fn_sue18 N wt 300 300]
      rintro en wy6 ⟨v6, rfl, hs, hb⟩
      obtain ⟨vt6, vc6, rfl, ht, hc⟩ := hs [] (fun _ h => by cases h)
      have o6t := ht.one
      have o6c := hc.one
      have I6 := Lib.hid (info_co (vt := vt6) (vc := vc6) (c := cF) KcF.out.pre KcF.out.bank)
      have L6 : Hid ((coC vt6 vc6 cF).length = 43) := Lib.hid (coC_len (c := cF) KcF.out.pre KcF.out.bank)
      have x6 : CoX [] wy6 (.agg (coC vt6 vc6 cF).toArray) cF := ⟨vt6, vc6, rfl, ht, hc⟩
      clear hs ht hc
      replace dC := dC.to hb
      replace yC := yC.to hb
      replace sC := sC.to hb
      replace ff := ff.trans (hb.mono ff.size)
      clear hb
      go_wp2_with (first
        | (refine wpl_store_new rfl _ _ _ rfl 30 _ (coC vt6 vc6 cF) rfl rfl (by rw [L6.out]; rfl) I6.out (coC_one o6t o6c) ?_
           intro wz6 dD hz
           simp only [Act.put, List.setIfInBounds_toArray, List.set_cons_zero, List.set_cons_succ]
           replace dC := dC.to hz
           replace yC := yC.to hz
           replace sC := sC.to hz
           replace ff := ff.trans (hz.mono ff.size)
           have yD := x6.to hz
           clear hz x6
           have k42C : wz6.cell? ⟨C, 42, none⟩ = some (.slice (some ⟨bC, oC, none⟩) 1 cC) := by rw [dC.cell]; exact co_claims KcF.out.pre KcF.out.bank
           have k3C : wz6.cell? ⟨bC, oC + 3, none⟩ = some (.int .i64 2) := sC.cell (cl_st (x := fnX N 2 []))
           have kb2C : wz6.cell? ⟨C, 36, none⟩ = some (.int .i64 300) := by rw [dC.cell, ← V2cF.out]; exact co_bank KcF.out.pre KcF.out.bank 2 (by decide)
           have kb3C : wz6.cell? ⟨C, 37, none⟩ = some (.int .i64 300) := by rw [dC.cell, ← V3cF.out]; exact co_bank KcF.out.pre KcF.out.bank 3 (by decide))
        | (refine wpl_load_fld (by rfl) _ _ rfl C 0 rfl (coC vt5 (.slice (some ⟨bC, oC, none⟩) 1 cC) cF) _ dC.range Try.underlying30 rfl I5.out ?_)
        | (refine wpl_load_fld (by rfl) _ _ rfl wy6.heap.size 0 rfl (coC vt6 vc6 cF) _ dD.range Try.underlying30 rfl I6.out ?_))
      refine (sameC_any _ _ cF KcF.out wz6 yC yD).mono ?_
      rintro e wq ⟨rfl, hb⟩
      replace dC := dC.to hb
      have kq := kb2C
      have kb9 : wq.cell? ⟨C, 36, none⟩ = some (.int .i64 300) := by rw [dC.cell, ← V2cF.out]; exact co_bank KcF.out.pre KcF.out.bank 2 (by decide)
      replace ff := ff.trans (hb.mono ff.size)
      clear kb2C kq kb3C k3C k42C
      go_wp2_with fail
      go_ret
      exact ⟨rfl, ff⟩
    · have t1 : ¬ wt > 3 := h3
      have t1d : decide (3 < wt) = false := decide_eq_false h3
      have H3 := Lib.hid h3
      obtain ⟨cG, hcG⟩ : ∃ c, fnC N wt 200 300 1 [] = c := ⟨_, rfl⟩
      have EcG := Lib.hid hcG
      have KcG : Hid cG.ok := (show cG.ok from by rw [← hcG]; exact fnC_ok N hN.2 _ _ _ _ _ (fun s h => by cases h) (Nat.zero_le _))
      have LcG : Hid (cG.claims = [(fnX N 1 [])]) := (show _ = _ by rw [← hcG]; rfl)
      have NcG : Hid (cG.now = wt) := (show _ = _ by rw [← hcG]; rfl)
      have BcG : Hid (BkB 1000000 cG.bank) := (show BkB _ _ by rw [← hcG]; exact fn_bk _ _ ⟨by decide, by decide⟩ ⟨by decide, by decide⟩)
      have TcG : Hid (1 ≤ (N : Int) ∧ (N : Int) ≤ (cG.txs.length : Int) ∧ cG.txs.length ≤ 2048) := (show _ ∧ _ from by rw [← hcG]; show _ ∧ (N : Int) ≤ ((hashL N).length : Int) ∧ (hashL N).length ≤ 2048; rw [hashL_len]; omega)
      have V2cG : Hid (cG.bank.getD 2 0 = 200) := (show _ = _ by rw [← hcG]; rfl)
      have V3cG : Hid (cG.bank.getD 3 0 = 300) := (show _ = _ by rw [← hcG]; rfl)
      clear hcG
      obtain ⟨cD, hcD⟩ : ∃ c, fnC N wt 200 200 1 [fnS N (fnG N wt)] = c := ⟨_, rfl⟩
      have EcD := Lib.hid hcD
      have KcD : Hid cD.ok := (show cD.ok from by rw [← hcD]; exact fnC_ok N hN.2 _ _ _ _ _ (fun s h => by rw [List.mem_singleton.1 h]; exact fnS_ok N hN.2 _ ⟨rfl, rfl, rfl⟩) (by show [_].length ≤ 4096; simp))
      have LcD : Hid (cD.claims = [(fnX N 1 [fnS N (fnG N wt)])]) := (show _ = _ by rw [← hcD]; rfl)
      have NcD : Hid (cD.now = wt) := (show _ = _ by rw [← hcD]; rfl)
      have BcD : Hid (BkB 1000000 cD.bank) := (show BkB _ _ by rw [← hcD]; exact fn_bk _ _ ⟨by decide, by decide⟩ ⟨by decide, by decide⟩)
      have TcD : Hid (1 ≤ (N : Int) ∧ (N : Int) ≤ (cD.txs.length : Int) ∧ cD.txs.length ≤ 2048) := (show _ ∧ _ from by rw [← hcD]; show _ ∧ (N : Int) ≤ ((hashL N).length : Int) ∧ (hashL N).length ≤ 2048; rw [hashL_len]; omega)
      have V2cD : Hid (cD.bank.getD 2 0 = 200) := (show _ = _ by rw [← hcD]; rfl)
      have V3cD : Hid (cD.bank.getD 3 0 = 200) := (show _ = _ by rw [← hcD]; rfl)
      clear hcD
      obtain ⟨cE, hcE⟩ : ∃ c, fnC N (wt + 50) 200 400 3 [fnS N (overD (fnG N wt) false)] = c := ⟨_, rfl⟩
      have EcE := Lib.hid hcE
      have KcE : Hid cE.ok := (show cE.ok from by rw [← hcE]; exact fnC_ok N hN.2 _ _ _ _ _ (fun s h => by rw [List.mem_singleton.1 h]; exact fnS_ok N hN.2 _ ⟨rfl, rfl, rfl⟩) (by show [_].length ≤ 4096; simp))
      have LcE : Hid (cE.claims = [(fnX N 3 [fnS N (overD (fnG N wt) false)])]) := (show _ = _ by rw [← hcE]; rfl)
      have NcE : Hid (cE.now = (wt + 50)) := (show _ = _ by rw [← hcE]; rfl)
      have BcE : Hid (BkB 1000000 cE.bank) := (show BkB _ _ by rw [← hcE]; exact fn_bk _ _ ⟨by decide, by decide⟩ ⟨by decide, by decide⟩)
      have TcE : Hid (1 ≤ (N : Int) ∧ (N : Int) ≤ (cE.txs.length : Int) ∧ cE.txs.length ≤ 2048) := (show _ ∧ _ from by rw [← hcE]; show _ ∧ (N : Int) ≤ ((hashL N).length : Int) ∧ (hashL N).length ≤ 2048; rw [hashL_len]; omega)
      have V2cE : Hid (cE.bank.getD 2 0 = 200) := (show _ = _ by rw [← hcE]; rfl)
      have V3cE : Hid (cE.bank.getD 3 0 = 400) := (show _ = _ by rw [← hcE]; rfl)
      clear hcE
      refine (next0_any _ cS KcS.out (fnX N 1 []) LcS.out rfl wt (by omega) (by rw [NcS.out]; decide) ⟨by show (0 : Int) ≤ 0; decide, by show (0 : Int) ≤ 1000; decide⟩ 2 (by decide) rfl (by rw [V2cS.out]; decide) w5 yC).mono ?_
      rw [show next0 cS (fnX N 1 []) 2 wt = cG from by rw [← EcS.out, ← EcG.out, fn_soon N wt h3, Int.zero_add]]
      rintro en wy5 ⟨v5, rfl, hs, hb⟩
      obtain ⟨vt5, vc5, rfl, ht, hc⟩ := hs [C] (fun b hb => by rw [List.mem_singleton.1 hb]; exact dC.lt)
      have o5t := ht.one
      have o5c := hc.one
      have I5 := Lib.hid (info_co (vt := vt5) (vc := vc5) (c := cG) KcG.out.pre KcG.out.bank)
      have L5 : Hid ((coC vt5 vc5 cG).length = 43) := Lib.hid (coC_len (c := cG) KcG.out.pre KcG.out.bank)
      have x5 : CoX [C] wy5 (.agg (coC vt5 vc5 cG).toArray) cG := ⟨vt5, vc5, rfl, ht, hc⟩
      clear hs ht hc
      replace dC := dC.to hb
      replace yC := yC.to hb
      replace ff := ff.trans (hb.mono ff.size)
      clear hb
      go_wp2_with (first
        | (refine wpl_store_fld (by rfl) _ _ _ rfl C 0 _ _ (coC vt5 vc5 cG) rfl _ rfl rfl dC (by rw [L4.out, L5.out]; exact Nat.le_refl _) I5.out (coC_one o5t o5c) ?_
           intro w6 dd uu
           rw [put_all _ _ (by rw [L4.out, L5.out])] at dd
           replace ff := ff.trans (below_but uu hwC ff.size)
           have yy := cell_next x5 uu
           clear dC yC uu x5
           have dC := dd
           have yC := yy
           clear dd yy)
        | (refine wpl_load_fld (by rfl) _ _ rfl C 0 rfl (coC vt5 vc5 cG) _ dC.range Try.underlying30 rfl I5.out ?_))
      obtain ⟨bC, oC, cC, vsC, rfl, sC, _⟩ := yC.one_ KcG.out.pre KcG.out.bank LcG.out
      refine (sueC_any _ cG KcG.out (fnX N 1 []) LcG.out TcG.out (by rw [NcG.out]; omega) ⟨by show (0 : Int) ≤ 0; decide, by show (0 : Int) ≤ 1000; decide⟩ BcG.out.2 (by show (0 : Nat) < 4096; decide) 3 0 w6 yC).mono ?_
      rw [show sueR cG (fnX N 1 []) 3 0 = (cD, 0) from by rw [← EcG.out, ← EcD.out]; exact fn_sue N wt (by have := H3.out; omega)]
      rintro en wy6 ⟨v6, rfl, hs, hb⟩
      obtain ⟨vt6, vc6, rfl, ht, hc⟩ := hs [] (fun _ h => by cases h)
      have o6t := ht.one
      have o6c := hc.one
      have I6 := Lib.hid (info_co (vt := vt6) (vc := vc6) (c := cD) KcD.out.pre KcD.out.bank)
      have L6 : Hid ((coC vt6 vc6 cD).length = 43) := Lib.hid (coC_len (c := cD) KcD.out.pre KcD.out.bank)
      have x6 : CoX [] wy6 (.agg (coC vt6 vc6 cD).toArray) cD := ⟨vt6, vc6, rfl, ht, hc⟩
      clear hs ht hc
      replace dC := dC.to hb
      replace yC := yC.to hb
      replace sC := sC.to hb
      replace ff := ff.trans (hb.mono ff.size)
      clear hb
      go_wp2_with (first
        | (refine wpl_store_new rfl _ _ _ rfl 30 _ (coC vt6 vc6 cD) rfl rfl (by rw [L6.out]; rfl) I6.out (coC_one o6t o6c) ?_
           intro wz6 dD hz
           simp only [Act.put, List.setIfInBounds_toArray, List.set_cons_zero, List.set_cons_succ]
           replace dC := dC.to hz
           replace yC := yC.to hz
           replace sC := sC.to hz
           replace ff := ff.trans (hz.mono ff.size)
           have yD := x6.to hz
           clear hz x6)
        | (refine wpl_load_fld (by rfl) _ _ rfl wy6.heap.size 0 rfl (coC vt6 vc6 cD) _ dD.range Try.underlying30 rfl I6.out ?_))
      refine (sueC_any _ cD KcD.out (fnX N 1 [fnS N (fnG N wt)]) LcD.out TcD.out (by rw [NcD.out]; omega) ⟨by show (0 : Int) ≤ 0; decide, by show (0 : Int) ≤ 1000; decide⟩ BcD.out.2 (by show (1 : Nat) < 4096; decide) 3 0 wz6 yD).mono ?_
      rw [show sueR cD (fnX N 1 [fnS N (fnG N wt)]) 3 0 = (cD, 7) from by rw [← EcD.out]; exact fn_sue7 N wt (by have := H3.out; omega)]
      rintro en wy7 ⟨v7, rfl, hs, hb⟩
      obtain ⟨vt7, vc7, rfl, ht, hc⟩ := hs [] (fun _ h => by cases h)
      have o7t := ht.one
      have o7c := hc.one
      have I7 := Lib.hid (info_co (vt := vt7) (vc := vc7) (c := cD) KcD.out.pre KcD.out.bank)
      have L7 : Hid ((coC vt7 vc7 cD).length = 43) := Lib.hid (coC_len (c := cD) KcD.out.pre KcD.out.bank)
      have x7 : CoX [] wy7 (.agg (coC vt7 vc7 cD).toArray) cD := ⟨vt7, vc7, rfl, ht, hc⟩
      clear hs ht hc
      replace dC := dC.to hb
      replace yC := yC.to hb
      replace dD := dD.to hb
      replace yD := yD.to hb
      replace sC := sC.to hb
      replace ff := ff.trans (hb.mono ff.size)
      clear hb
      go_wp2_with (first
        | (refine wpl_store_new rfl _ _ _ rfl 30 _ (coC vt7 vc7 cD) rfl rfl (by rw [L7.out]; rfl) I7.out (coC_one o7t o7c) ?_
           intro wz7 dG hz
           simp only [Act.put, List.setIfInBounds_toArray, List.set_cons_zero, List.set_cons_succ]
           replace dC := dC.to hz
           replace yC := yC.to hz
           replace dD := dD.to hz
           replace yD := yD.to hz
           replace sC := sC.to hz
           replace ff := ff.trans (hz.mono ff.size)
           have yG := x7.to hz
           clear hz x7
           clear dG yG)
        | (refine wpl_load_fld (by rfl) _ _ rfl wy6.heap.size 0 rfl (coC vt6 vc6 cD) _ dD.range Try.underlying30 rfl I6.out ?_))
      refine (nextM_any _ cD KcD.out (fnX N 1 [fnS N (fnG N wt)]) LcD.out (by show [_] ≠ []; simp) (fun y hy => by rw [List.mem_singleton.1 hy]; show (hashL N).take N ≠ []; intro h; have := congrArg List.length h; rw [List.length_take, hashL_len] at this; simp at this; omega) 50 (by decide) (by rw [NcD.out]; omega) ⟨by show (0 : Int) ≤ 0; decide, by show (0 : Int) ≤ 1000; decide⟩ ⟨by show (0 : Int) ≤ 2; decide, by show (2 : Int) < 8; decide⟩ (fun y hy => by rw [List.mem_singleton.1 hy]; exact ⟨by show (0 : Int) ≤ 3; decide, by show (3 : Int) < 8; decide⟩) BcD.out wz7 yD).mono ?_
      rw [show nextM cD (fnX N 1 [fnS N (fnG N wt)]) 50 = cE from by rw [← EcD.out, ← EcE.out]; exact fn_next N wt hq8.1 (by have := H3.out; omega)]
      rintro en wy8 ⟨v8, rfl, hs, hb⟩
      obtain ⟨vt8, vc8, rfl, ht, hc⟩ := hs [] (fun _ h => by cases h)
      have o8t := ht.one
      have o8c := hc.one
      have I8 := Lib.hid (info_co (vt := vt8) (vc := vc8) (c := cE) KcE.out.pre KcE.out.bank)
      have L8 : Hid ((coC vt8 vc8 cE).length = 43) := Lib.hid (coC_len (c := cE) KcE.out.pre KcE.out.bank)
      have x8 : CoX [] wy8 (.agg (coC vt8 vc8 cE).toArray) cE := ⟨vt8, vc8, rfl, ht, hc⟩
      clear hs ht hc
      replace dC := dC.to hb
      replace yC := yC.to hb
      replace dD := dD.to hb
      replace yD := yD.to hb
      replace sC := sC.to hb
      replace ff := ff.trans (hb.mono ff.size)
      clear hb
      obtain ⟨bX, oX, cX, vsX, rfl, sX, _⟩ := x8.one_ KcE.out.pre KcE.out.bank LcE.out
      clear dD yD
      go_upto_region 15 with (first
        | (refine wpl_store_new rfl _ _ _ rfl 30 _ (coC vt8 (.slice (some ⟨bX, oX, none⟩) 1 cX) cE) rfl rfl (by rw [L8.out]; rfl) I8.out (coC_one o8t o8c) ?_
           intro wz8 dX hz
           simp only [Act.put, List.setIfInBounds_toArray, List.set_cons_zero, List.set_cons_succ]
           replace dC := dC.to hz
           replace yC := yC.to hz
           replace sC := sC.to hz
           replace sX := sX.to hz
           replace ff := ff.trans (hz.mono ff.size)
           have yX := x8.to hz
           clear hz x8
           have k42C : wz8.cell? ⟨C, 42, none⟩ = some (.slice (some ⟨bC, oC, none⟩) 1 cC) := by rw [dC.cell]; exact co_claims KcG.out.pre KcG.out.bank
           have k3C : wz8.cell? ⟨bC, oC + 3, none⟩ = some (.int .i64 1) := sC.cell (cl_st (x := fnX N 1 []))
           have kb2C : wz8.cell? ⟨C, 36, none⟩ = some (.int .i64 200) := by rw [dC.cell, ← V2cG.out]; exact co_bank KcG.out.pre KcG.out.bank 2 (by decide)
           have kb3C : wz8.cell? ⟨C, 37, none⟩ = some (.int .i64 300) := by rw [dC.cell, ← V3cG.out]; exact co_bank KcG.out.pre KcG.out.bank 3 (by decide)
           have k42X : wz8.cell? ⟨wy8.heap.size, 42, none⟩ = some (.slice (some ⟨bX, oX, none⟩) 1 cX) := by rw [dX.cell]; exact co_claims KcE.out.pre KcE.out.bank
           have k3X : wz8.cell? ⟨bX, oX + 3, none⟩ = some (.int .i64 3) := sX.cell (cl_st (x := fnX N 3 [fnS N (overD (fnG N wt) false)]))
           have kb2X : wz8.cell? ⟨wy8.heap.size, 36, none⟩ = some (.int .i64 200) := by rw [dX.cell, ← V2cE.out]; exact co_bank KcE.out.pre KcE.out.bank 2 (by decide)
           have kb3X : wz8.cell? ⟨wy8.heap.size, 37, none⟩ = some (.int .i64 400) := by rw [dX.cell, ← V3cE.out]; exact co_bank KcE.out.pre KcE.out.bank 3 (by decide)))
      clear o4t o4c o5t o5c o6t o6c o7t o7c o8t o8c L4 L5 L6 L7 L8 I4 I5 I6 I7 I8 t1d
      repeat (first | go_values | go_skip | go_guarded | go_step | go_upon | go_back)
      go_ret
      exact ⟨rfl, ff⟩
end Go.Proofs.Ytgljcfemindgoaa
