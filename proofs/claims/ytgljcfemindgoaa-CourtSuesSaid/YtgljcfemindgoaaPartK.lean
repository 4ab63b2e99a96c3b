/- The texts of this claim, part K: words, plain laws, walks. -/
import Derived.Test.YtgljcfemindgoaaPartJ
/- The walk of court.Same, where two courts read as one. -/
set_option linter.unusedSimpArgs false
set_option linter.unusedVariables false
namespace Go.Proofs.Ytgljcfemindgoaa
open Go.RowKit
set_option maxRecDepth 100000
theorem eqItems_ints {e : TypeId} (he : Try.prog.underlying e = some (.int .i64)) (d : Nat) (a : List Int) (w : World) : ∀ l : List Nat, (∀ i ∈ l, i < a.length) →
    (Op.eqItems (d + 1) e 1 (a.map (Value.int .i64)).toArray (a.map (Value.int .i64)).toArray l).run Try.prog w = .ok true w
  | [], _ => by simp [Op.eqItems]
  | i :: l, h => by
    have ha := h i (by simp)
    have hp : Try.prog.plainKey e = true := by unfold Program.plainKey; rw [he]
    have pa := run_part_plain (P := Try.prog) w hp (xs := (a.map (Value.int .i64)).toArray) (off := i) (v := .int .i64 a[i]) (by simp [ha])
    have ih := eqItems_ints he d a w l (fun j hj => h j (by simp [hj]))
    have hq : (Op.equalIn (d + 1) e (.int .i64 a[i]) (.int .i64 a[i])).run Try.prog w = .ok (a[i] == a[i]) w := run_equalIn_int w d e .i64 .i64 _ _ he
    simp only [Op.eqItems, Sem.run_bind, Nat.mul_one, pa, hq, Result.andThen_ok, beq_self_eq_true, Bool.not_true, Bool.false_eq_true, if_false]
    exact ih
theorem eq_bank (a : List Int) (ha : a.length = 8) (w : World) : (Op.equalIn 10000 27 (.agg (a.map (Value.int .i64)).toArray) (.agg (a.map (Value.int .i64)).toArray)).run Try.prog w = .ok true w := by
  obtain ⟨i, hi⟩ : ∃ i, Try.prog.info? 3 = some i := by
    have h : (Try.prog.info? 3).isSome = true := by kernel_rfl
    exact Option.isSome_iff_exists.1 h
  rw [run_equalIn_array w 9999 _ _ Try.underlying27 hi, show Try.prog.cellsOf 3 = 1 from by kernel_rfl, eqItems_ints Try.underlying3 9998 a w (List.range 8) (fun i hi => by simp at hi; omega)]
theorem info_bank {a : List Int} (ha : a.length = 8) : (Try.prog.info? 27).map (·.size) = some (a.map (Value.int .i64)).length := by rw [List.length_map, ha]; kernel_rfl
theorem co_bankr {vt vc : Value} {c : CO} (h : c.pre.length = 32) : ((coC vt vc c).drop 34).take (c.bank.map (Value.int .i64)).length = c.bank.map (Value.int .i64) := by
  have e : coC vt vc c = ([Value.int .i64 c.now] ++ (B8 c.pre ++ [vt])) ++ (c.bank.map (Value.int .i64) ++ [vc]) := by simp [coC]
  rw [e, List.drop_left' (by simp [B8_len, h]), List.take_left' rfl]
set_option maxRecDepth 100000 in
set_option maxHeartbeats 4000000 in
theorem sameC_any (v1 v2 : Value) (c : CO) (hc : c.ok) (w : World) (h1 : CoX [] w v1 c) (h2 : CoX [] w v2 c) : Calls Try.prog 13 #[v1, v2] w (RB true w) := by
  obtain ⟨vt, vc, rfl, ht, hl⟩ := h1
  obtain ⟨vt2, vc2, rfl, ht2, hl2⟩ := h2
  obtain ⟨W, HW, hbw, ba, bb⟩ : ∃ W, Hid (W = (w.alloc (.cells (coC vt vc c).toArray 30)).alloc (.cells (coC vt2 vc2 c).toArray 30)) ∧ Below w.heap.size w W ∧
      Blk W w.heap.size 30 (coC vt vc c) ∧ Blk W (w.heap.size + 1) 30 (coC vt2 vc2 c) := by
    refine ⟨_, rfl, ((Below.refl _ _).alloc (Nat.le_refl _) _).alloc (by simp) _, ?_, ?_⟩
    · exact (Blk.new w (coC vt vc c).toArray 30).to ((Below.refl _ _).alloc (Nat.le_refl _) _)
    · have := Blk.new (w.alloc (.cells (coC vt vc c).toArray 30)) (coC vt2 vc2 c).toArray 30
      rw [show (w.alloc (.cells (coC vt vc c).toArray 30)).heap.size = w.heap.size + 1 from by simp] at this
      exact this
  have HC := Lib.hid hc
  have htW := ht.to hbw
  have htW2 := ht2.to hbw
  have hlW := hl.to hbw
  have hlW2 := hl2.to hbw
  have ka0 : W.cell? ⟨w.heap.size, 0, none⟩ = some (.int .i64 c.now) := by rw [ba.cell]; exact co_now
  have kb0 : W.cell? ⟨w.heap.size + 1, 0, none⟩ = some (.int .i64 c.now) := by rw [bb.cell]; exact co_now
  have ka33 : W.cell? ⟨w.heap.size, 33, none⟩ = some vt := by rw [ba.cell]; exact co_txs hc.pre
  have kb33 : W.cell? ⟨w.heap.size + 1, 33, none⟩ = some vt2 := by rw [bb.cell]; exact co_txs hc.pre
  have ra := ba.sub 1 (B8 c.pre) (co_pre hc.pre)
  have rb := bb.sub 1 (B8 c.pre) (co_pre hc.pre)
  have eq1 : ∀ w', (Op.equalIn 10000 25 (.agg (B8 c.pre).toArray) (.agg (B8 c.pre).toArray)).run Try.prog w' = .ok true w' := fun w' => by
    rw [eq_hash c.pre c.pre hc.pre hc.pre w']
    simp
  obtain ⟨A, n, cc, rfl, sl, hn, _, _⟩ := htW
  obtain ⟨A2, n2, cc2, rfl, sl2, hn2, _, _⟩ := htW2
  have hn4 := hc.n
  have ba' := ba
  have bb' := bb
  clear hc ht hl ht2 hl2
  go_enter Try.func13, Try.ntmps13
  go_upto_region 1 with fail
  refine wp_at HW.out ?_
  clear HW
  go_wp2_with (first
    | (refine wpl_load_fld (by rfl) _ _ rfl w.heap.size 1 rfl (B8 c.pre) _ ra Try.underlying25 rfl (info_hash HC.out.pre) ?_)
    | (refine wpl_load_fld (by rfl) _ _ rfl (w.heap.size + 1) 1 rfl (B8 c.pre) _ rb Try.underlying25 rfl (info_hash HC.out.pre) ?_))
  refine (equal_H A n cc c.txs A2 n2 cc2 c.txs W sl HC.out.txs sl2 HC.out.txs (by omega) (by omega)).mono ?_
  rintro e w1 ⟨rfl, hb1⟩
  rw [decide_eq_true rfl]
  have ba1 := ba.to hb1
  have bb1 := bb.to hb1
  have ra1 := ba1.sub 34 _ (co_bankr HC.out.pre)
  have rb1 := bb1.sub 34 _ (co_bankr HC.out.pre)
  have ka42 : w1.cell? ⟨w.heap.size, 42, none⟩ = some vc := by rw [ba1.cell]; exact co_claims HC.out.pre HC.out.bank
  have kb42 : w1.cell? ⟨w.heap.size + 1, 42, none⟩ = some vc2 := by rw [bb1.cell]; exact co_claims HC.out.pre HC.out.bank
  have eq2 : ∀ w', (Op.equalIn 10000 27 (.agg (c.bank.map (Value.int .i64)).toArray) (.agg (c.bank.map (Value.int .i64)).toArray)).run Try.prog w' = .ok true w' := eq_bank c.bank HC.out.bank
  have f1 := hbw.trans (hb1.mono hbw.size)
  clear ba bb ra rb ka0 kb0 ka33 kb33
  go_wp2_with (first
    | (refine wpl_load_fld (by rfl) _ _ rfl w.heap.size 34 rfl (c.bank.map (Value.int .i64)) _ ra1 Try.underlying27 rfl (info_bank HC.out.bank) ?_)
    | (refine wpl_load_fld (by rfl) _ _ rfl (w.heap.size + 1) 34 rfl (c.bank.map (Value.int .i64)) _ rb1 Try.underlying27 rfl (info_bank HC.out.bank) ?_))
  refine (eqClaims_any vc vc2 c.claims HC.out.claims w1 (hlW.to hb1) (hlW2.to hb1) HC.out.m).mono ?_
  rintro e w2 ⟨rfl, hb2⟩
  go_wp2_with fail
  go_ret
  exact ⟨rfl, f1.trans (hb2.mono f1.size)⟩
end Go.Proofs.Ytgljcfemindgoaa
/- The walk of capstanlaw17.CourtSues. -/
set_option linter.unusedSimpArgs false
set_option linter.unusedVariables false
namespace Go.Proofs.Ytgljcfemindgoaa
open Go.RowKit
set_option maxRecDepth 100000
set_option maxRecDepth 100000 in
set_option maxHeartbeats 8000000 in
theorem courtSues_walk (w : World) (n : Int) (n_lo : -9223372036854775808 ≤ n) (n_hi : n < 9223372036854775808) (wa : Int) (wa_lo : -9223372036854775808 ≤ wa) (wa_hi : wa < 9223372036854775808) :
    Calls Try.prog 5 #[.int .i64 n, .int .i64 wa] w (RB true w) := by
  obtain ⟨wt, hwt⟩ : ∃ q : Int, wa % 6 = q := ⟨_, rfl⟩
  obtain ⟨m, hm⟩ : ∃ m : Int, n % 9 = m := ⟨_, rfl⟩
  have hq6 : 0 ≤ wt ∧ wt < 6 := by omega
  have hm9 : 0 ≤ m ∧ m < 9 := by omega
  have HQ := Lib.hid hwt
  have HM := Lib.hid hm
  clear hwt hm
  go_enter Try.func5, Try.ntmps5
  go_wp2_with fail
  refine (courtKnown_any w).mono ?_
  rintro e w1 ⟨rfl, h1⟩
  go_wp2_with fail
  refine (within_capstanlaw17 n 9 w1 (by omega) (by omega) n_lo n_hi).mono ?_
  rintro e w1' ⟨rfl, rfl⟩
  rw [HM.out]
  go_wp2_with fail
  refine (within_capstanlaw17 wa 6 w1 (by omega) (by omega) wa_lo wa_hi).mono ?_
  rintro e w1' ⟨rfl, rfl⟩
  rw [HQ.out]
  go_wp2_with fail
  refine (hall_any 150 5 (by omega) (by omega) (by omega) w1).mono ?_
  rintro e w2 ⟨v1, rfl, hs1, hb1⟩
  obtain ⟨cH, hcH⟩ : ∃ c, hallC 150 (hashL 5) = c := ⟨_, rfl⟩
  rw [hcH] at hs1
  have HCH := Lib.hid hcH
  have HO : Hid cH.ok := (show cH.ok from by rw [← hcH]; exact hallC_ok 150 (hashL 5) (hashL_all 5) (by rw [hashL_len]; decide))
  have HLT : Hid (cH.claims.length < 20) := (show _ < _ by rw [← hcH]; decide)
  have HTX : Hid ((4 : Int) ≤ (cH.txs.length : Int)) := (show _ ≤ _ by rw [← hcH]; show (4 : Int) ≤ ((hashL 5).length : Int); rw [hashL_len]; decide)
  obtain ⟨cS, hcS⟩ : ∃ c, suesS = c := ⟨_, rfl⟩
  have HCS := Lib.hid hcS
  have HSO : Hid cS.ok := (show cS.ok from by rw [← hcS]; exact suesS_ok)
  obtain ⟨c0, hc0⟩ : ∃ c, next0 suesS suesX 0 wt = c := ⟨_, rfl⟩
  obtain ⟨x0, hx0⟩ := sues_start wt hq6.1
  rw [hc0] at hx0
  have HX0 := Lib.hid hx0
  have HC0 := Lib.hid hc0
  clear hcH hcS hc0 hx0
  obtain ⟨vt1, vc1, rfl, ht1, hc1⟩ := hs1 [] (fun _ h => by cases h)
  have o1t := ht1.one
  have o1c := hc1.one
  have I1 := Lib.hid (info_co (vt := vt1) (vc := vc1) (c := cH) HO.out.pre HO.out.bank)
  have L1 : Hid ((coC vt1 vc1 cH).length = 43) := Lib.hid (coC_len (c := cH) HO.out.pre HO.out.bank)
  have X1 : CoX [] w2 (.agg (coC vt1 vc1 cH).toArray) cH := ⟨vt1, vc1, rfl, ht1, hc1⟩
  clear hs1 ht1 hc1
  obtain ⟨C, hC⟩ : ∃ C, w2.heap.size = C := ⟨_, rfl⟩
  have f2 := h1.trans (hb1.mono h1.size)
  have hwC : w.heap.size ≤ C := by rw [← hC]; exact f2.size
  have HC1 := Lib.hid hC
  clear hC
  go_wp2_with (first
    | (refine wpl_store_new rfl _ _ _ rfl 30 _ (coC vt1 vc1 cH) rfl rfl (by rw [L1.out]; rfl) I1.out (coC_one o1t o1c) ?_
       intro w3 d1 hz1
       simp only [Act.put, List.setIfInBounds_toArray, List.set_cons_zero, List.set_cons_succ]
       rw [HC1.out] at d1 ⊢)
    | (refine wpl_load_fld (by rfl) _ _ rfl C 0 rfl (coC vt1 vc1 cH) _ d1.range Try.underlying30 rfl I1.out ?_)
    | (refine wpl_build (by rfl) _ _ rfl _ (by exact builtC9) ?_))
  have Y1 := X1.to hz1
  have g1 := f2.trans (hz1.mono f2.size)
  clear X1 hz1 f2 hb1 h1
  refine (sayC_any _ cH HO.out 0 4 (one_ 9) rfl w3 HLT.out Y1 (cS, 0) (.inr (.inr ⟨⟨by decide, by decide⟩, by decide, HTX.out, by rw [← HCH.out]; decide, by rw [← HCH.out]; decide, by rw [← HCS.out, ← HCH.out]; rfl⟩))).mono ?_
  rintro e w4 ⟨v2, rfl, hs2, hb2⟩
  have hC2 := d1.lt
  obtain ⟨vt2, vc2, rfl, ht2, hc2⟩ := hs2 [C] (fun b hb => by rw [List.mem_singleton.1 hb]; exact hC2)
  have o2t := ht2.one
  have o2c := hc2.one
  have I2 := Lib.hid (info_co (vt := vt2) (vc := vc2) (c := cS) HSO.out.pre HSO.out.bank)
  have L2 : Hid ((coC vt2 vc2 cS).length = 43) := Lib.hid (coC_len (c := cS) HSO.out.pre HSO.out.bank)
  have X2 : CoX [C] w4 (.agg (coC vt2 vc2 cS).toArray) cS := ⟨vt2, vc2, rfl, ht2, hc2⟩
  clear hs2 ht2 hc2
  have e2 := d1.to hb2
  have f2 := g1.trans (hb2.mono g1.size)
  clear d1 hb2 g1 Y1
  go_wp2_with (first
    | (refine wpl_store_fld (by rfl) _ _ _ rfl C 0 _ _ (coC vt2 vc2 cS) rfl _ rfl rfl e2 (by rw [L1.out, L2.out]; exact Nat.le_refl _) I2.out (coC_one o2t o2c) ?_
       intro w5 d2 u2
       rw [put_all _ _ (by rw [L1.out, L2.out])] at d2)
    | (refine wpl_load_fld (by rfl) _ _ rfl C 0 rfl (coC vt2 vc2 cS) _ d2.range Try.underlying30 rfl I2.out ?_))
  have Y2 := cell_next X2 u2
  have g2 := f2.trans (below_but u2 hwC f2.size)
  clear X2 f2 e2 u2
  refine (next0_any _ cS HSO.out suesX (by rw [← HCS.out]; rfl) rfl wt (by omega) (by rw [← HCS.out]; decide) (by decide) 0 (by decide) rfl (by rw [← HCS.out]; decide) w5 Y2).mono ?_
  rintro e w6 ⟨v3, rfl, hs3, hb3⟩
  rw [← HCS.out, HC0.out] at hs3
  have hC3 := d2.lt
  obtain ⟨vt3, vc3, rfl, ht3, hc3⟩ := hs3 [C] (fun b hb => by rw [List.mem_singleton.1 hb]; exact hC3)
  have o3t := ht3.one
  have o3c := hc3.one
  have I3 := Lib.hid (info_co (vt := vt3) (vc := vc3) (c := c0) HX0.out.ok.pre HX0.out.ok.bank)
  have L3 : Hid ((coC vt3 vc3 c0).length = 43) := Lib.hid (coC_len (c := c0) HX0.out.ok.pre HX0.out.ok.bank)
  have X3 : CoX [C] w6 (.agg (coC vt3 vc3 c0).toArray) c0 := ⟨vt3, vc3, rfl, ht3, hc3⟩
  clear hs3 ht3 hc3
  have e3 := d2.to hb3
  have f3 := g2.trans (hb3.mono g2.size)
  clear d2 hb3 g2 Y2
  go_wp2_with (first
    | (refine wpl_store_fld (by rfl) _ _ _ rfl C 0 _ _ (coC vt3 vc3 c0) rfl _ rfl rfl e3 (by rw [L2.out, L3.out]; exact Nat.le_refl _) I3.out (coC_one o3t o3c) ?_
       intro w7 d3 u3
       rw [put_all _ _ (by rw [L2.out, L3.out])] at d3))
  have Y3 := cell_next X3 u3
  have g3 := f3.trans (below_but u3 hwC f3.size)
  clear X3 f3 e3 u3
  go_loopw [6] (fun k wr => ∃ (j : Nat) (vt vc : Value) (cj : CO) (xj : CL), k = .int .i64 (j : Int) ∧ j ≤ 8 ∧ Hid (SI wt j cj xj) ∧ Blk wr C 30 (coC vt vc cj) ∧ CoX [] wr (.agg (coC vt vc cj).toArray) cj ∧ Hid (vt.oneCell' = true ∧ vc.oneCell' = true) ∧ Below w.heap.size w wr) (fun k _ => 8 - (intOf k).toNat)
  case atStart => exact ⟨0, vt3, vc3, c0, x0, rfl, by decide, HX0, d3, Y3, (show _ ∧ _ from ⟨o3t, o3c⟩), g3⟩
  case round =>
    clear d3 Y3 g3
    obtain ⟨j, vt, vc, cj, xj, rfl, hj, HS, d, Y, HV, g⟩ := hrel
    have Ij := Lib.hid (info_co (vt := vt) (vc := vc) (c := cj) HS.out.ok.pre HS.out.ok.bank)
    have Lj : Hid ((coC vt vc cj).length = 43) := Lib.hid (coC_len (c := cj) HS.out.ok.pre HS.out.ok.bank)
    have hCj := d.lt
    by_cases hlt : j < 8
    · have t1 : (j : Int) < 8 := by omega
      by_cases hw : 3 < wt
      · have t2 : wt > 3 := hw
        go_wp2_with (first
          | (refine wpl_load_fld (by rfl) _ _ rfl C 0 rfl (coC vt vc cj) _ d.range Try.underlying30 rfl Ij.out ?_))
        refine (sueC_any _ cj HS.out.ok xj HS.out.cl (by rw [HS.out.n]; exact ⟨by decide, by rw [HS.out.txs]; decide, by rw [HS.out.txs]; decide⟩) (by rw [HS.out.now]; omega) (by rw [HS.out.at_]; decide) HS.out.bk (by have := HS.out.sl; omega) (j : Int) 0 wr Y).mono ?_
        rw [HS.out.late_ hw j hlt]
        rintro e wy ⟨v5, rfl, hs5, hb5⟩
        obtain ⟨vt5, vc5, rfl, ht5, hc5⟩ := hs5 [C] (fun b hb => by rw [List.mem_singleton.1 hb]; exact hCj)
        have o5t := ht5.one
        have o5c := hc5.one
        have I5 := Lib.hid (info_co (vt := vt5) (vc := vc5) (c := cj) HS.out.ok.pre HS.out.ok.bank)
        have L5 : Hid ((coC vt5 vc5 cj).length = 43) := Lib.hid (coC_len (c := cj) HS.out.ok.pre HS.out.ok.bank)
        have X5 : CoX [C] wy (.agg (coC vt5 vc5 cj).toArray) cj := ⟨vt5, vc5, rfl, ht5, hc5⟩
        clear hs5 ht5 hc5
        have e5 := d.to hb5
        have Z5 := Y.to hb5
        have f5 := g.trans (hb5.mono g.size)
        clear hb5
        go_wp2_with (first
          | (refine wpl_store_new rfl _ _ _ rfl 30 _ (coC vt5 vc5 cj) rfl rfl (by rw [L5.out]; rfl) I5.out (coC_one o5t o5c) ?_
             intro wz d5 hz5
             simp only [Act.put, List.setIfInBounds_toArray, List.set_cons_zero, List.set_cons_succ]
             have e6 := e5.to hz5)
          | (refine wpl_load_fld (by rfl) _ _ rfl C 0 rfl (coC vt vc cj) _ e6.range Try.underlying30 rfl Ij.out ?_)
          | (refine wpl_load_fld (by rfl) _ _ rfl wy.heap.size 0 rfl (coC vt5 vc5 cj) _ d5.range Try.underlying30 rfl I5.out ?_))
        refine (sameC_any _ _ cj HS.out.ok wz (Z5.to hz5) ((X5.less (fun _ h => by cases h)).to hz5)).mono ?_
        rintro e wq ⟨rfl, hbq⟩
        have e7 := (e5.to hz5).to hbq
        have D7 := d5.to hbq
        have X7 := (X5.to hz5).to hbq
        have f6 := f5.trans (hz5.mono f5.size)
        have f7 := f6.trans (hbq.mono f6.size)
        clear e5 e6 Z5 f5 f6 d5 X5 hz5 hbq d Y g
        go_wp2_with (first
          | (refine wpl_load_fld (by rfl) _ _ rfl wy.heap.size 0 rfl (coC vt5 vc5 cj) _ D7.range Try.underlying30 rfl I5.out ?_)
          | (refine wpl_store_fld (by rfl) _ _ _ rfl C 0 _ _ (coC vt5 vc5 cj) rfl _ rfl rfl e7 (by rw [Lj.out, L5.out]; exact Nat.le_refl _) I5.out (coC_one o5t o5c) ?_
             intro w8 d8 u8
             rw [put_all _ _ (by rw [Lj.out, L5.out])] at d8))
        go_roundw
        case rel => exact ⟨j + 1, vt5, vc5, cj, xj, by go_num, by omega, (show SI wt (j + 1) cj xj from HS.out.skip (.inl hw)), d8, cell_next X7 u8, (show _ ∧ _ from ⟨o5t, o5c⟩), f7.trans (below_but u8 hwC f7.size)⟩
        case measure => simp [intOf]; omega
      · have t2 : ¬ wt > 3 := hw
        by_cases h0 : j = 0
        · subst h0
          go_wp2_with (first
            | (refine wpl_load_fld (by rfl) _ _ rfl C 0 rfl (coC vt vc cj) _ d.range Try.underlying30 rfl Ij.out ?_))
          refine (sueC_any _ cj HS.out.ok xj HS.out.cl (by rw [HS.out.n]; exact ⟨by decide, by rw [HS.out.txs]; decide, by rw [HS.out.txs]; decide⟩) (by rw [HS.out.now]; omega) (by rw [HS.out.at_]; decide) HS.out.bk (by have := HS.out.sl; omega) (0 : Int) 0 wr Y).mono ?_
          rw [show sueR cj xj (0 : Int) 0 = _ from HS.out.low hq6.1 (by omega)]
          rintro e wy ⟨v5, rfl, hs5, hb5⟩
          obtain ⟨vt5, vc5, rfl, ht5, hc5⟩ := hs5 [C] (fun b hb => by rw [List.mem_singleton.1 hb]; exact hCj)
          have o5t := ht5.one
          have o5c := hc5.one
          have I5 := Lib.hid (info_co (vt := vt5) (vc := vc5) (c := cj) HS.out.ok.pre HS.out.ok.bank)
          have L5 : Hid ((coC vt5 vc5 cj).length = 43) := Lib.hid (coC_len (c := cj) HS.out.ok.pre HS.out.ok.bank)
          have X5 : CoX [C] wy (.agg (coC vt5 vc5 cj).toArray) cj := ⟨vt5, vc5, rfl, ht5, hc5⟩
          clear hs5 ht5 hc5
          have e5 := d.to hb5
          have Z5 := Y.to hb5
          have f5 := g.trans (hb5.mono g.size)
          clear hb5
          go_wp2_with (first
            | (refine wpl_store_new rfl _ _ _ rfl 30 _ (coC vt5 vc5 cj) rfl rfl (by rw [L5.out]; rfl) I5.out (coC_one o5t o5c) ?_
               intro wz d5 hz5
               simp only [Act.put, List.setIfInBounds_toArray, List.set_cons_zero, List.set_cons_succ]
               have e6 := e5.to hz5)
            | (refine wpl_load_fld (by rfl) _ _ rfl C 0 rfl (coC vt vc cj) _ e6.range Try.underlying30 rfl Ij.out ?_)
            | (refine wpl_load_fld (by rfl) _ _ rfl wy.heap.size 0 rfl (coC vt5 vc5 cj) _ d5.range Try.underlying30 rfl I5.out ?_))
          refine (sameC_any _ _ cj HS.out.ok wz (Z5.to hz5) ((X5.less (fun _ h => by cases h)).to hz5)).mono ?_
          rintro e wq ⟨rfl, hbq⟩
          have e7 := (e5.to hz5).to hbq
          have D7 := d5.to hbq
          have X7 := (X5.to hz5).to hbq
          have f6 := f5.trans (hz5.mono f5.size)
          have f7 := f6.trans (hbq.mono f6.size)
          clear e5 e6 Z5 f5 f6 d5 X5 hz5 hbq d Y g
          go_wp2_with (first
            | (refine wpl_load_fld (by rfl) _ _ rfl wy.heap.size 0 rfl (coC vt5 vc5 cj) _ D7.range Try.underlying30 rfl I5.out ?_)
            | (refine wpl_store_fld (by rfl) _ _ _ rfl C 0 _ _ (coC vt5 vc5 cj) rfl _ rfl rfl e7 (by rw [Lj.out, L5.out]; exact Nat.le_refl _) I5.out (coC_one o5t o5c) ?_
               intro w8 d8 u8
               rw [put_all _ _ (by rw [Lj.out, L5.out])] at d8))
          go_roundw
          case rel => exact ⟨0 + 1, vt5, vc5, cj, xj, by go_num, by omega, (show SI wt (0 + 1) cj xj from HS.out.skip (.inr rfl)), d8, cell_next X7 u8, (show _ ∧ _ from ⟨o5t, o5c⟩), f7.trans (below_but u8 hwC f7.size)⟩
          case measure => simp [intOf]
        · have t3 : ¬ (j : Int) = 0 := by omega
          obtain ⟨cn, hcn⟩ : ∃ c, suedC cj xj j = c := ⟨_, rfl⟩
          obtain ⟨xn, hxn⟩ : ∃ x, suedX cj xj j = x := ⟨_, rfl⟩
          have hnx := HS.out.next hq6.1 (by omega) (by omega) hlt
          rw [hcn, hxn] at hnx
          have HN := Lib.hid hnx
          have HE : Hid (sueR cj xj (j : Int) 0 = (cn, 0)) := (show _ = _ by rw [← hcn]; exact HS.out.sue hq6.1 (by omega) (by omega) hlt)
          clear hnx hcn hxn
          go_wp2_with (first
            | (refine wpl_load_fld (by rfl) _ _ rfl C 0 rfl (coC vt vc cj) _ d.range Try.underlying30 rfl Ij.out ?_))
          refine (sueC_any _ cj HS.out.ok xj HS.out.cl (by rw [HS.out.n]; exact ⟨by decide, by rw [HS.out.txs]; decide, by rw [HS.out.txs]; decide⟩) (by rw [HS.out.now]; omega) (by rw [HS.out.at_]; decide) HS.out.bk (by have := HS.out.sl; omega) (j : Int) 0 wr Y).mono ?_
          rw [HE.out]
          rintro e wy ⟨v5, rfl, hs5, hb5⟩
          obtain ⟨vt5, vc5, rfl, ht5, hc5⟩ := hs5 [C] (fun b hb => by rw [List.mem_singleton.1 hb]; exact hCj)
          have o5t := ht5.one
          have o5c := hc5.one
          have I5 := Lib.hid (info_co (vt := vt5) (vc := vc5) (c := cn) HN.out.1.ok.pre HN.out.1.ok.bank)
          have L5 : Hid ((coC vt5 vc5 cn).length = 43) := Lib.hid (coC_len (c := cn) HN.out.1.ok.pre HN.out.1.ok.bank)
          have X5 : CoX [C] wy (.agg (coC vt5 vc5 cn).toArray) cn := ⟨vt5, vc5, rfl, ht5, hc5⟩
          clear hs5 ht5 hc5
          have e5 := d.to hb5
          have f5 := g.trans (hb5.mono g.size)
          clear hb5 d Y g
          go_wp2_with (first
            | (refine wpl_store_new rfl _ _ _ rfl 30 _ (coC vt5 vc5 cn) rfl rfl (by rw [L5.out]; rfl) I5.out (coC_one o5t o5c) ?_
               intro wz d5 hz5
               simp only [Act.put, List.setIfInBounds_toArray, List.set_cons_zero, List.set_cons_succ]
               have e6 := e5.to hz5)
            | (refine wpl_load_fld (by rfl) _ _ rfl wy.heap.size 0 rfl (coC vt5 vc5 cn) _ d5.range Try.underlying30 rfl I5.out ?_))
          have X6 := (X5.to hz5)
          have f6 := f5.trans (hz5.mono f5.size)
          clear X5 hz5 f5 e5
          refine (sueC_any _ cn HN.out.1.ok xn HN.out.1.cl (by rw [HN.out.1.n]; exact ⟨by decide, by rw [HN.out.1.txs]; decide, by rw [HN.out.1.txs]; decide⟩) (by rw [HN.out.1.now]; omega) (by rw [HN.out.1.at_]; decide) HN.out.1.bk (by have := HN.out.1.sl; omega) (j : Int) 0 wz (X6.less (fun _ h => by cases h))).mono ?_
          rw [HN.out.2.2]
          rintro e wq ⟨v9, rfl, hs9, hb9⟩
          obtain ⟨vt9, vc9, rfl, ht9, hc9⟩ := hs9 [] (fun _ h => by cases h)
          have o9t := ht9.one
          have o9c := hc9.one
          have I9 := Lib.hid (info_co (vt := vt9) (vc := vc9) (c := cn) HN.out.1.ok.pre HN.out.1.ok.bank)
          have L9 : Hid ((coC vt9 vc9 cn).length = 43) := Lib.hid (coC_len (c := cn) HN.out.1.ok.pre HN.out.1.ok.bank)
          have X9 : CoX [] wq (.agg (coC vt9 vc9 cn).toArray) cn := ⟨vt9, vc9, rfl, ht9, hc9⟩
          clear hs9 ht9 hc9
          have e9 := e6.to hb9
          have D9 := d5.to hb9
          have X7 := X6.to hb9
          have f9 := f6.trans (hb9.mono f6.size)
          clear e6 d5 X6 f6 hb9
          have HBJ := HN.out.2.1
          have hb8' : j < 8 := hlt
          go_wp2_with (first
            | (refine wpl_store_new rfl _ _ _ rfl 30 _ (coC vt9 vc9 cn) rfl rfl (by rw [L9.out]; rfl) I9.out (coC_one o9t o9c) ?_
               intro wu d9 hz9
               simp only [Act.put, List.setIfInBounds_toArray, List.set_cons_zero, List.set_cons_succ]
               have e10 := e9.to hz9
               have D10 := D9.to hz9
               have kbj : wu.cell? ⟨wy.heap.size, 34 + j, none⟩ = some (.int .i64 50) := by rw [D10.cell, ← HBJ]; exact co_bank HN.out.1.ok.pre HN.out.1.ok.bank j hb8')
            | (refine wpl_load_fld (by rfl) _ _ rfl wy.heap.size 0 rfl (coC vt5 vc5 cn) _ D10.range Try.underlying30 rfl I5.out ?_)
            | (refine wpl_store_fld (by rfl) _ _ _ rfl C 0 _ _ (coC vt5 vc5 cn) rfl _ rfl rfl e10 (by rw [Lj.out, L5.out]; exact Nat.le_refl _) I5.out (coC_one o5t o5c) ?_
               intro w8 d8 u8
               rw [put_all _ _ (by rw [Lj.out, L5.out])] at d8))
          have f10 := f9.trans (hz9.mono f9.size)
          have X10 := X7.to hz9
          go_roundw
          case rel => exact ⟨j + 1, vt5, vc5, cn, xn, by go_num, by omega, HN.out.1, d8, cell_next X10 u8, (show _ ∧ _ from ⟨o5t, o5c⟩), f10.trans (below_but u8 hwC f10.size)⟩
          case measure => simp [intOf]; omega
    · obtain rfl : j = 8 := by omega
      have t1 : ¬ (8 : Int) < 8 := by omega
      have hs8 := HS.out
      obtain ⟨bc, oc, cc, vs, rfl, slc, sux⟩ := Y.one_ hs8.ok.pre hs8.ok.bank hs8.cl
      obtain ⟨As, ns, css, ls, rfl, _, hls, hlns, _⟩ := sux
      have hns : ns = xj.suits.length := by rw [← hls, List.length_map]; exact hlns.symm
      have HNS : Hid (wt ≤ 3 → ns = 7) := (show _ → _ from fun h => by rw [hns]; exact hs8.len h)
      have HXR : Hid (xj.root.length = 32) := (show _ = _ from (hs8.ok.claims xj (by rw [hs8.cl]; simp)).root)
      clear hs8 hls hlns hns
      go_wp2_with (first
        | (refine wpl_load_fld (by rfl) _ _ rfl C 0 rfl (coC vt (.slice (some ⟨bc, oc, none⟩) 1 cc) cj) _ d.range Try.underlying30 rfl Ij.out ?_))
      refine (sueC_any _ cj HS.out.ok xj HS.out.cl (by rw [HS.out.n]; exact ⟨by decide, by rw [HS.out.txs]; decide, by rw [HS.out.txs]; decide⟩) (by rw [HS.out.now]; omega) (by rw [HS.out.at_]; decide) HS.out.bk (by have := HS.out.sl; omega) (8 + m) 0 wr Y).mono ?_
      rw [show sueR cj xj (8 + m) 0 = (cj, 1) from by unfold sueR; rw [if_pos (by omega)]]
      rintro e wy5 ⟨v, rfl, hs5, hb5⟩
      obtain ⟨vt5, vc5, rfl, ht5, hc5⟩ := hs5 [] (fun _ h => by cases h)
      have o5t := ht5.one
      have o5c := hc5.one
      have I5 := Lib.hid (info_co (vt := vt5) (vc := vc5) (c := cj) HS.out.ok.pre HS.out.ok.bank)
      have L5 : Hid ((coC vt5 vc5 cj).length = 43) := Lib.hid (coC_len (c := cj) HS.out.ok.pre HS.out.ok.bank)
      have X5 : CoX [] wy5 (.agg (coC vt5 vc5 cj).toArray) cj := ⟨vt5, vc5, rfl, ht5, hc5⟩
      clear hs5 ht5 hc5
      have e5 := d.to hb5
      have y5 := Y.to hb5
      have q5 := slc.to hb5
      have f5 := g.trans (hb5.mono g.size)
      clear hb5 d Y slc g
      go_wp2_with (first
        | (refine wpl_store_new rfl _ _ _ rfl 30 _ (coC vt5 vc5 cj) rfl rfl (by rw [L5.out]; rfl) I5.out (coC_one o5t o5c) ?_
           intro wz5 d5 hz5
           simp only [Act.put, List.setIfInBounds_toArray, List.set_cons_zero, List.set_cons_succ]
           have d5n := e5.to hz5)
        | (refine wpl_load_fld (by rfl) _ _ rfl C 0 rfl (coC vt (.slice (some ⟨bc, oc, none⟩) 1 cc) cj) _ d5n.range Try.underlying30 rfl Ij.out ?_))
      have Y5n := y5.to hz5
      have q5n := q5.to hz5
      have g5n := f5.trans (hz5.mono f5.size)
      clear hz5 e5 y5 q5 f5 X5 d5
      refine (sueC_any _ cj HS.out.ok xj HS.out.cl (by rw [HS.out.n]; exact ⟨by decide, by rw [HS.out.txs]; decide, by rw [HS.out.txs]; decide⟩) (by rw [HS.out.now]; omega) (by rw [HS.out.at_]; decide) HS.out.bk (by have := HS.out.sl; omega) 1 (1 + m) wz5 Y5n).mono ?_
      rw [show sueR cj xj 1 (1 + m) = (cj, 2) from by unfold sueR; rw [if_neg (by omega), if_pos (by omega)]]
      rintro e wy7 ⟨v, rfl, hs7, hb7⟩
      obtain ⟨vt7, vc7, rfl, ht7, hc7⟩ := hs7 [] (fun _ h => by cases h)
      have o7t := ht7.one
      have o7c := hc7.one
      have I7 := Lib.hid (info_co (vt := vt7) (vc := vc7) (c := cj) HS.out.ok.pre HS.out.ok.bank)
      have L7 : Hid ((coC vt7 vc7 cj).length = 43) := Lib.hid (coC_len (c := cj) HS.out.ok.pre HS.out.ok.bank)
      have X7 : CoX [] wy7 (.agg (coC vt7 vc7 cj).toArray) cj := ⟨vt7, vc7, rfl, ht7, hc7⟩
      clear hs7 ht7 hc7
      have e7 := d5n.to hb7
      have y7 := Y5n.to hb7
      have q7 := q5n.to hb7
      have f7 := g5n.trans (hb7.mono g5n.size)
      clear hb7 d5n Y5n q5n g5n
      go_wp2_with (first
        | (refine wpl_store_new rfl _ _ _ rfl 30 _ (coC vt7 vc7 cj) rfl rfl (by rw [L7.out]; rfl) I7.out (coC_one o7t o7c) ?_
           intro wz7 d7 hz7
           simp only [Act.put, List.setIfInBounds_toArray, List.set_cons_zero, List.set_cons_succ]
           have d7n := e7.to hz7)
        | (refine wpl_load_fld (by rfl) _ _ rfl C 0 rfl (coC vt (.slice (some ⟨bc, oc, none⟩) 1 cc) cj) _ d7n.range Try.underlying30 rfl Ij.out ?_))
      have Y7n := y7.to hz7
      have q7n := q7.to hz7
      have g7n := f7.trans (hz7.mono f7.size)
      clear hz7 e7 y7 q7 f7 X7 d7
      refine (sueC_any _ cj HS.out.ok xj HS.out.cl (by rw [HS.out.n]; exact ⟨by decide, by rw [HS.out.txs]; decide, by rw [HS.out.txs]; decide⟩) (by rw [HS.out.now]; omega) (by rw [HS.out.at_]; decide) HS.out.bk (by have := HS.out.sl; omega) 1 (-1 - m) wz7 Y7n).mono ?_
      rw [show sueR cj xj 1 (-1 - m) = (cj, 2) from by unfold sueR; rw [if_neg (by omega), if_pos (by omega)]]
      rintro e wy8 ⟨v, rfl, hs8, hb8⟩
      obtain ⟨vt8, vc8, rfl, ht8, hc8⟩ := hs8 [] (fun _ h => by cases h)
      have o8t := ht8.one
      have o8c := hc8.one
      have I8 := Lib.hid (info_co (vt := vt8) (vc := vc8) (c := cj) HS.out.ok.pre HS.out.ok.bank)
      have L8 : Hid ((coC vt8 vc8 cj).length = 43) := Lib.hid (coC_len (c := cj) HS.out.ok.pre HS.out.ok.bank)
      have X8 : CoX [] wy8 (.agg (coC vt8 vc8 cj).toArray) cj := ⟨vt8, vc8, rfl, ht8, hc8⟩
      clear hs8 ht8 hc8
      have e8 := d7n.to hb8
      have y8 := Y7n.to hb8
      have q8 := q7n.to hb8
      have f8 := g7n.trans (hb8.mono g7n.size)
      clear hb8 d7n Y7n q7n g7n
      go_upto_region 26 with (first
        | (refine wpl_store_new rfl _ _ _ rfl 30 _ (coC vt8 vc8 cj) rfl rfl (by rw [L8.out]; rfl) I8.out (coC_one o8t o8c) ?_
           intro wz8 d8 hz8
           simp only [Act.put, List.setIfInBounds_toArray, List.set_cons_zero, List.set_cons_succ]
           have d8n := e8.to hz8
           have k42 : wz8.cell? ⟨C, 42, none⟩ = some (.slice (some ⟨bc, oc, none⟩) 1 cc) := by rw [d8n.cell]; exact co_claims HS.out.ok.pre HS.out.ok.bank
           have k36 : wz8.cell? ⟨bc, oc + 36, none⟩ = some (.slice As ns css) := (q8.to hz8).cell (cl_suits HXR.out)))
      have g8 := f8.trans (hz8.mono f8.size)
      by_cases hw : 3 < wt
      · have t2 : wt > 3 := hw
        have t3 : decide (3 < wt) = true := decide_eq_true hw
        clear hz8 d8 e8 y8 q8 f8 X8 d8n o1t o1c o2t o2c o3t o3c I1 I2 I3 L1 L2 L3 I5 L5 I7 L7 I8 L8
        go_wp2_with fail
        go_ret
        exact ⟨rfl, g8⟩
      · have t2 : ¬ wt > 3 := hw
        obtain rfl : ns = 7 := HNS.out (by omega)
        have t3 : decide (3 < wt) = false := decide_eq_false hw
        clear hz8 d8 e8 y8 q8 f8 X8 d8n o1t o1c o2t o2c o3t o3c I1 I2 I3 L1 L2 L3 I5 L5 I7 L7 I8 L8
        go_wp2_with fail
        go_ret
        exact ⟨rfl, g8⟩
end Go.Proofs.Ytgljcfemindgoaa
