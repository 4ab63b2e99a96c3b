/- The texts of this claim, part I: words, plain laws, walks. -/
import Derived.Test.YtgljcfemindgoaaPartH
/- The walk of capstanlaw17.CourtSays. -/
set_option linter.unusedSimpArgs false
set_option linter.unusedVariables false
namespace Go.Proofs.Ytgljcfemindgoaa
open Go.RowKit
set_option maxRecDepth 100000
def saysN : Nat → CO
  | 0 => hallC 250 (hashL 5)
  | j + 1 => saidC (saysN j) 2 1 (one_ 3)
theorem saysN_ok : ∀ (j : Nat), j ≤ 2 → (saysN j).ok := by
  have h0 : (saysN 0).ok := hallC_ok 250 (hashL 5) (hashL_all 5) (by rw [hashL_len]; decide)
  have hs : ∀ c : CO, c.ok → c.claims.length < 20 → (saidC c 2 1 (one_ 3)).ok := fun c hc hl => ⟨hc.pre, hc.txs, hc.n, by show (c.bank.set _ _).length = 8; rw [List.length_set]; exact hc.bank, fun x hx => by
    rcases List.mem_append.1 hx with h | h
    · exact hc.claims x h
    · rw [List.mem_singleton.1 h]
      exact ⟨rfl, (by intro s hs; cases hs), Nat.zero_le _⟩, by show (c.claims ++ _).length ≤ _; rw [List.length_append]; simp; omega⟩
  intro j hj
  have : j = 0 ∨ j = 1 ∨ j = 2 := by omega
  rcases this with rfl | rfl | rfl
  · exact h0
  · exact hs _ h0 (by decide)
  · exact hs _ (hs _ h0 (by decide)) (by decide)
theorem saysN_lt (j : Nat) (hj : j ≤ 2) : (saysN j).claims.length < 20 := by
  have : j = 0 ∨ j = 1 ∨ j = 2 := by omega
  rcases this with rfl | rfl | rfl <;> decide
theorem saysN_step (j : Nat) (hj : j < 2) : partyB 2 ∧ 1 ≤ (1 : Int) ∧ (1 : Int) ≤ ((saysN j).txs.length : Int) ∧ 100 ≤ (saysN j).bank.getD (2 : Int).toNat 0 ∧ (saysN j).bank.getD (2 : Int).toNat 0 ≤ 1000000 ∧ (saysN (j + 1), (0 : Int)) = (saidC (saysN j) (2 : Int).toNat 1 (one_ 3), 0) := by
  have : j = 0 ∨ j = 1 := by omega
  have ht : ∀ j, (saysN j).txs.length = 5 := by
    intro j
    induction j with
    | zero => exact hashL_len 5
    | succ j ih => exact ih
  refine ⟨⟨by decide, by decide⟩, by decide, by rw [ht]; decide, ?_, ?_, rfl⟩
  · rcases this with rfl | rfl <;> decide
  · rcases this with rfl | rfl <;> decide
set_option maxRecDepth 100000 in
set_option maxHeartbeats 8000000 in
theorem courtSays_walk (w : World) (wh : Int) (wh_lo : -9223372036854775808 ≤ wh) (wh_hi : wh < 9223372036854775808) (n : Int) (n_lo : -9223372036854775808 ≤ n) (n_hi : n < 9223372036854775808) :
    Calls Try.prog 3 #[.int .i64 wh, .int .i64 n] w (RB true w) := by
  obtain ⟨q, hq⟩ : ∃ q : Int, wh % 6 = q := ⟨_, rfl⟩
  obtain ⟨m, hm⟩ : ∃ m : Int, n % 9 = m := ⟨_, rfl⟩
  have hq6 : 0 ≤ q ∧ q < 6 := by omega
  have hm9 : 0 ≤ m ∧ m < 9 := by omega
  have HQ := Lib.hid hq
  have HM := Lib.hid hm
  clear hq hm
  go_enter Try.func3, Try.ntmps3
  go_wp2_with fail
  refine (courtKnown_any w).mono ?_
  rintro e w1 ⟨rfl, h1⟩
  go_wp2_with fail
  refine (within_capstanlaw17 n 9 w1 (by omega) (by omega) n_lo n_hi).mono ?_
  rintro e w1' ⟨rfl, rfl⟩
  rw [HM.out]
  go_wp2_with fail
  refine (hall_any 250 5 (by omega) (by omega) (by omega) w1).mono ?_
  rintro e w2 ⟨v1, rfl, hs1, hb1⟩
  obtain ⟨cH, hcH⟩ : ∃ c, hallC 250 (hashL 5) = c := ⟨_, rfl⟩
  rw [hcH] at hs1
  have HCH := Lib.hid hcH
  have HO : Hid cH.ok := (show cH.ok from by rw [← hcH]; exact hallC_ok 250 (hashL 5) (hashL_all 5) (by rw [hashL_len]; decide))
  have HLT : Hid (cH.claims.length < 20) := (show _ < _ by rw [← hcH]; decide)
  have HTX : Hid ((3 : Int) ≤ (cH.txs.length : Int)) := (show _ ≤ _ by rw [← hcH]; show (3 : Int) ≤ ((hashL 5).length : Int); rw [hashL_len]; decide)
  have HT5 : Hid (cH.txs.length = 5) := (show _ = _ by rw [← hcH]; exact hashL_len 5)
  obtain ⟨cO, hcO⟩ : ∃ c, saidC cH 2 3 (one_ 9) = c := ⟨_, rfl⟩
  have HCO := Lib.hid hcO
  clear hcO hcH
  obtain ⟨vt1, vc1, rfl, ht1, hc1⟩ := hs1 [] (fun _ h => by cases h)
  have o1t := ht1.one
  have o1c := hc1.one
  have I1 := Lib.hid (info_co (vt := vt1) (vc := vc1) (c := cH) HO.out.pre HO.out.bank)
  have L1 : Hid ((coC vt1 vc1 cH).length = 43) := Lib.hid (coC_len (c := cH) HO.out.pre HO.out.bank)
  have X1 : CoX [] w2 (.agg (coC vt1 vc1 cH).toArray) cH := ⟨vt1, vc1, rfl, ht1, hc1⟩
  obtain ⟨C, hC⟩ : ∃ C, w2.heap.size = C := ⟨_, rfl⟩
  have f2 := h1.trans (hb1.mono h1.size)
  have hwC : w.heap.size ≤ C := by rw [← hC]; exact f2.size
  have HC1 := Lib.hid hC
  clear hC hs1 ht1 hc1
  go_wp2_with (first
    | (refine wpl_store_new rfl _ _ _ rfl 30 _ (coC vt1 vc1 cH) rfl rfl (by rw [L1.out]; rfl) I1.out (coC_one o1t o1c) ?_
       intro w3 d1 hb3
       simp only [Act.put, List.setIfInBounds_toArray, List.set_cons_zero, List.set_cons_succ]
       rw [HC1.out] at d1 ⊢))
  have Y1 := X1.to hb3
  have g1 := f2.trans (hb3.mono f2.size)
  clear X1 hb3 f2 hb1 h1
  refine (within_capstanlaw17 wh 6 w3 (by omega) (by omega) wh_lo wh_hi).mono ?_
  rintro e w3' ⟨rfl, rfl⟩
  rw [HQ.out]
  have h6 : q = 0 ∨ q = 1 ∨ q = 2 ∨ q = 3 ∨ q = 4 ∨ q = 5 := by omega
  rcases h6 with rfl | rfl | rfl | rfl | rfl | rfl
  · go_wp2_with (first
      | (refine wpl_load_fld (by rfl) _ _ rfl C 0 rfl (coC vt1 vc1 cH) _ d1.range Try.underlying30 rfl I1.out ?_)
      | (refine wpl_build (by rfl) _ _ rfl _ (by exact builtC9) ?_))
    refine (sayC_any _ cH HO.out (8 + m) 3 (one_ 9) rfl w3 HLT.out Y1 (cH, 1) (.inl ⟨fun h => by have := h.1.2; omega, rfl⟩)).mono ?_
    rintro en wy ⟨v5, rfl, hs5, hb5⟩
    obtain ⟨vt5, vc5, rfl, ht5, hc5⟩ := hs5 [] (fun _ h => by cases h)
    have o5t := ht5.one
    have o5c := hc5.one
    have I5 := Lib.hid (info_co (vt := vt5) (vc := vc5) (c := cH) HO.out.pre HO.out.bank)
    have L5 : Hid ((coC vt5 vc5 cH).length = 43) := Lib.hid (coC_len (c := cH) HO.out.pre HO.out.bank)
    have X5 : CoX [] wy (.agg (coC vt5 vc5 cH).toArray) cH := ⟨vt5, vc5, rfl, ht5, hc5⟩
    have e5 := d1.to hb5
    have Z5 := Y1.to hb5
    have f5 := g1.trans (hb5.mono g1.size)
    clear hs5 ht5 hc5 hb5
    go_wp2_with (first
      | (refine wpl_store_new rfl _ _ _ rfl 30 _ (coC vt5 vc5 cH) rfl rfl (by rw [L5.out]; rfl) I5.out (coC_one o5t o5c) ?_
         intro wz bD hbz
         simp only [Act.put, List.setIfInBounds_toArray, List.set_cons_zero, List.set_cons_succ]
         have e6 := e5.to hbz)
      | (refine wpl_load_fld (by rfl) _ _ rfl C 0 rfl (coC vt1 vc1 cH) _ e6.range Try.underlying30 rfl I1.out ?_)
      | (refine wpl_load_fld (by rfl) _ _ rfl wy.heap.size 0 rfl (coC vt5 vc5 cH) _ bD.range Try.underlying30 rfl I5.out ?_))
    refine (sameC_any _ _ cH HO.out wz (Z5.to hbz) (X5.to hbz)).mono ?_
    rintro en wq ⟨rfl, hbq⟩
    have f6 := f5.trans (hbz.mono f5.size)
    go_wp2_with fail
    go_ret
    exact ⟨rfl, f6.trans (hbq.mono f6.size)⟩
  · go_wp2_with (first
      | (refine wpl_load_fld (by rfl) _ _ rfl C 0 rfl (coC vt1 vc1 cH) _ d1.range Try.underlying30 rfl I1.out ?_)
      | (refine wpl_build (by rfl) _ _ rfl _ (by exact builtC9) ?_))
    refine (sayC_any _ cH HO.out (-1 - m) 3 (one_ 9) rfl w3 HLT.out Y1 (cH, 1) (.inl ⟨fun h => by have := h.1.1; omega, rfl⟩)).mono ?_
    rintro en wy ⟨v5, rfl, hs5, hb5⟩
    obtain ⟨vt5, vc5, rfl, ht5, hc5⟩ := hs5 [] (fun _ h => by cases h)
    have o5t := ht5.one
    have o5c := hc5.one
    have I5 := Lib.hid (info_co (vt := vt5) (vc := vc5) (c := cH) HO.out.pre HO.out.bank)
    have L5 : Hid ((coC vt5 vc5 cH).length = 43) := Lib.hid (coC_len (c := cH) HO.out.pre HO.out.bank)
    have X5 : CoX [] wy (.agg (coC vt5 vc5 cH).toArray) cH := ⟨vt5, vc5, rfl, ht5, hc5⟩
    have e5 := d1.to hb5
    have Z5 := Y1.to hb5
    have f5 := g1.trans (hb5.mono g1.size)
    clear hs5 ht5 hc5 hb5
    go_wp2_with (first
      | (refine wpl_store_new rfl _ _ _ rfl 30 _ (coC vt5 vc5 cH) rfl rfl (by rw [L5.out]; rfl) I5.out (coC_one o5t o5c) ?_
         intro wz bD hbz
         simp only [Act.put, List.setIfInBounds_toArray, List.set_cons_zero, List.set_cons_succ]
         have e6 := e5.to hbz)
      | (refine wpl_load_fld (by rfl) _ _ rfl C 0 rfl (coC vt1 vc1 cH) _ e6.range Try.underlying30 rfl I1.out ?_)
      | (refine wpl_load_fld (by rfl) _ _ rfl wy.heap.size 0 rfl (coC vt5 vc5 cH) _ bD.range Try.underlying30 rfl I5.out ?_))
    refine (sameC_any _ _ cH HO.out wz (Z5.to hbz) (X5.to hbz)).mono ?_
    rintro en wq ⟨rfl, hbq⟩
    have f6 := f5.trans (hbz.mono f5.size)
    go_wp2_with fail
    go_ret
    exact ⟨rfl, f6.trans (hbq.mono f6.size)⟩
  · go_wp2_with (first
      | (refine wpl_load_fld (by rfl) _ _ rfl C 0 rfl (coC vt1 vc1 cH) _ d1.range Try.underlying30 rfl I1.out ?_)
      | (refine wpl_build (by rfl) _ _ rfl _ (by exact builtC9) ?_))
    refine (sayC_any _ cH HO.out 2 (-m) (one_ 9) rfl w3 HLT.out Y1 (cH, 1) (.inl ⟨fun h => by have := h.2.1; omega, rfl⟩)).mono ?_
    rintro en wy ⟨v5, rfl, hs5, hb5⟩
    obtain ⟨vt5, vc5, rfl, ht5, hc5⟩ := hs5 [] (fun _ h => by cases h)
    have o5t := ht5.one
    have o5c := hc5.one
    have I5 := Lib.hid (info_co (vt := vt5) (vc := vc5) (c := cH) HO.out.pre HO.out.bank)
    have L5 : Hid ((coC vt5 vc5 cH).length = 43) := Lib.hid (coC_len (c := cH) HO.out.pre HO.out.bank)
    have X5 : CoX [] wy (.agg (coC vt5 vc5 cH).toArray) cH := ⟨vt5, vc5, rfl, ht5, hc5⟩
    have e5 := d1.to hb5
    have Z5 := Y1.to hb5
    have f5 := g1.trans (hb5.mono g1.size)
    clear hs5 ht5 hc5 hb5
    go_wp2_with (first
      | (refine wpl_store_new rfl _ _ _ rfl 30 _ (coC vt5 vc5 cH) rfl rfl (by rw [L5.out]; rfl) I5.out (coC_one o5t o5c) ?_
         intro wz bD hbz
         simp only [Act.put, List.setIfInBounds_toArray, List.set_cons_zero, List.set_cons_succ]
         have e6 := e5.to hbz)
      | (refine wpl_load_fld (by rfl) _ _ rfl C 0 rfl (coC vt1 vc1 cH) _ e6.range Try.underlying30 rfl I1.out ?_)
      | (refine wpl_load_fld (by rfl) _ _ rfl wy.heap.size 0 rfl (coC vt5 vc5 cH) _ bD.range Try.underlying30 rfl I5.out ?_))
    refine (sameC_any _ _ cH HO.out wz (Z5.to hbz) (X5.to hbz)).mono ?_
    rintro en wq ⟨rfl, hbq⟩
    have f6 := f5.trans (hbz.mono f5.size)
    go_wp2_with fail
    go_ret
    exact ⟨rfl, f6.trans (hbq.mono f6.size)⟩
  · go_wp2_with (first
      | (refine wpl_load_fld (by rfl) _ _ rfl C 0 rfl (coC vt1 vc1 cH) _ d1.range Try.underlying30 rfl I1.out ?_)
      | (refine wpl_build (by rfl) _ _ rfl _ (by exact builtC9) ?_))
    refine (sayC_any _ cH HO.out 2 (6 + m) (one_ 9) rfl w3 HLT.out Y1 (cH, 1) (.inl ⟨fun h => by have := h.2.2; rw [HT5.out] at this; omega, rfl⟩)).mono ?_
    rintro en wy ⟨v5, rfl, hs5, hb5⟩
    obtain ⟨vt5, vc5, rfl, ht5, hc5⟩ := hs5 [] (fun _ h => by cases h)
    have o5t := ht5.one
    have o5c := hc5.one
    have I5 := Lib.hid (info_co (vt := vt5) (vc := vc5) (c := cH) HO.out.pre HO.out.bank)
    have L5 : Hid ((coC vt5 vc5 cH).length = 43) := Lib.hid (coC_len (c := cH) HO.out.pre HO.out.bank)
    have X5 : CoX [] wy (.agg (coC vt5 vc5 cH).toArray) cH := ⟨vt5, vc5, rfl, ht5, hc5⟩
    have e5 := d1.to hb5
    have Z5 := Y1.to hb5
    have f5 := g1.trans (hb5.mono g1.size)
    clear hs5 ht5 hc5 hb5
    go_wp2_with (first
      | (refine wpl_store_new rfl _ _ _ rfl 30 _ (coC vt5 vc5 cH) rfl rfl (by rw [L5.out]; rfl) I5.out (coC_one o5t o5c) ?_
         intro wz bD hbz
         simp only [Act.put, List.setIfInBounds_toArray, List.set_cons_zero, List.set_cons_succ]
         have e6 := e5.to hbz)
      | (refine wpl_load_fld (by rfl) _ _ rfl C 0 rfl (coC vt1 vc1 cH) _ e6.range Try.underlying30 rfl I1.out ?_)
      | (refine wpl_load_fld (by rfl) _ _ rfl wy.heap.size 0 rfl (coC vt5 vc5 cH) _ bD.range Try.underlying30 rfl I5.out ?_))
    refine (sameC_any _ _ cH HO.out wz (Z5.to hbz) (X5.to hbz)).mono ?_
    rintro en wq ⟨rfl, hbq⟩
    have f6 := f5.trans (hbz.mono f5.size)
    go_wp2_with fail
    go_ret
    exact ⟨rfl, f6.trans (hbq.mono f6.size)⟩
  · go_wp2_with (first
      | fail)
    go_loopw [9] (fun k wr => ∃ (j : Nat) (vt vc : Value), k = .int .i64 (j : Int) ∧ j ≤ 2 ∧ Blk wr C 30 (coC vt vc (saysN j)) ∧ CoX [] wr (.agg (coC vt vc (saysN j)).toArray) (saysN j) ∧ Hid (vt.oneCell' = true ∧ vc.oneCell' = true) ∧ Below w.heap.size w wr) (fun k _ => 2 - (intOf k).toNat)
    case atStart => exact ⟨0, vt1, vc1, rfl, by decide, (by rw [show saysN 0 = cH from HCH.out]; exact d1), (by rw [show saysN 0 = cH from HCH.out]; exact Y1), (show _ ∧ _ from ⟨o1t, o1c⟩), g1⟩
    case round =>
      clear d1 Y1 g1
      obtain ⟨j, vt, vc, rfl, hj, d1, Y1, HV, g1⟩ := hrel
      have Ij := Lib.hid (info_co (vt := vt) (vc := vc) (c := saysN j) (saysN_ok j hj).pre (saysN_ok j hj).bank)
      have Lj : Hid ((coC vt vc (saysN j)).length = 43) := Lib.hid (coC_len (c := saysN j) (saysN_ok j hj).pre (saysN_ok j hj).bank)
      by_cases hlt : j < 2
      · have t1 : (j : Int) < 2 := by omega
        go_wp2_with (first
          | (refine wpl_load_fld (by rfl) _ _ rfl C 0 rfl (coC vt vc (saysN j)) _ d1.range Try.underlying30 rfl Ij.out ?_)
          | (refine wpl_build (by rfl) _ _ rfl _ (by exact builtC3) ?_))
        refine (sayC_any _ (saysN j) (saysN_ok j hj) 2 1 (one_ 3) rfl wr (saysN_lt j hj) Y1 (saysN (j + 1), 0) (.inr (.inr (saysN_step j hlt)))).mono ?_
        rintro en wy ⟨v5, rfl, hs5, hb5⟩
        have hCl := d1.lt
        obtain ⟨vt5, vc5, rfl, ht5, hc5⟩ := hs5 [C] (fun b hb => by rw [List.mem_singleton.1 hb]; exact hCl)
        have o5t := ht5.one
        have o5c := hc5.one
        have I5 := Lib.hid (info_co (vt := vt5) (vc := vc5) (c := saysN (j + 1)) (saysN_ok (j + 1) hlt).pre (saysN_ok (j + 1) hlt).bank)
        have L5 : Hid ((coC vt5 vc5 (saysN (j + 1))).length = 43) := Lib.hid (coC_len (c := saysN (j + 1)) (saysN_ok (j + 1) hlt).pre (saysN_ok (j + 1) hlt).bank)
        have X5 : CoX [C] wy (.agg (coC vt5 vc5 (saysN (j + 1))).toArray) (saysN (j + 1)) := ⟨vt5, vc5, rfl, ht5, hc5⟩
        have e5 := d1.to hb5
        have f5 := g1.trans (hb5.mono g1.size)
        clear hs5 ht5 hc5 hb5 d1 Y1 g1
        go_wp2_with (first
          | (refine wpl_store_fld (by rfl) _ _ _ rfl C 0 _ _ (coC vt5 vc5 (saysN (j + 1))) rfl _ rfl rfl e5 (by rw [Lj.out, L5.out]; exact Nat.le_refl _) I5.out (coC_one o5t o5c) ?_
             intro wz d6 u6
             rw [put_all _ _ (by rw [Lj.out, L5.out])] at d6))
        go_roundw
        case rel => exact ⟨j + 1, vt5, vc5, by go_num, by omega, d6, cell_next X5 u6, (show _ ∧ _ from ⟨o5t, o5c⟩), f5.trans (below_but u6 hwC f5.size)⟩
        case measure => simp [intOf]; omega
      · obtain rfl : j = 2 := by omega
        have t1 : ¬ (2 : Int) < 2 := by omega
        go_wp2_with (first
          | (refine wpl_load_fld (by rfl) _ _ rfl C 0 rfl (coC vt vc (saysN 2)) _ d1.range Try.underlying30 rfl Ij.out ?_)
          | (refine wpl_build (by rfl) _ _ rfl _ (by exact builtC9) ?_))
        refine (sayC_any _ (saysN 2) (saysN_ok 2 (by decide)) 2 3 (one_ 9) rfl wr (by decide) Y1 ((saysN 2), 13) (.inr (.inl ⟨⟨by decide, by decide⟩, by decide, by decide, by decide, rfl⟩))).mono ?_
        rintro en wy ⟨v5, rfl, hs5, hb5⟩
        obtain ⟨vt5, vc5, rfl, ht5, hc5⟩ := hs5 [] (fun _ h => by cases h)
        have o5t := ht5.one
        have o5c := hc5.one
        have I5 := Lib.hid (info_co (vt := vt5) (vc := vc5) (c := (saysN 2)) (saysN_ok 2 (by decide)).pre (saysN_ok 2 (by decide)).bank)
        have L5 : Hid ((coC vt5 vc5 (saysN 2)).length = 43) := Lib.hid (coC_len (c := (saysN 2)) (saysN_ok 2 (by decide)).pre (saysN_ok 2 (by decide)).bank)
        have X5 : CoX [] wy (.agg (coC vt5 vc5 (saysN 2)).toArray) (saysN 2) := ⟨vt5, vc5, rfl, ht5, hc5⟩
        have e5 := d1.to hb5
        have Z5 := Y1.to hb5
        have f5 := g1.trans (hb5.mono g1.size)
        clear hs5 ht5 hc5 hb5
        go_wp2_with (first
          | (refine wpl_store_new rfl _ _ _ rfl 30 _ (coC vt5 vc5 (saysN 2)) rfl rfl (by rw [L5.out]; rfl) I5.out (coC_one o5t o5c) ?_
             intro wz bD hbz
             simp only [Act.put, List.setIfInBounds_toArray, List.set_cons_zero, List.set_cons_succ]
             have e6 := e5.to hbz)
          | (refine wpl_load_fld (by rfl) _ _ rfl C 0 rfl (coC vt vc (saysN 2)) _ e6.range Try.underlying30 rfl Ij.out ?_)
          | (refine wpl_load_fld (by rfl) _ _ rfl wy.heap.size 0 rfl (coC vt5 vc5 (saysN 2)) _ bD.range Try.underlying30 rfl I5.out ?_))
        refine (sameC_any _ _ (saysN 2) (saysN_ok 2 (by decide)) wz (Z5.to hbz) (X5.to hbz)).mono ?_
        rintro en wq ⟨rfl, hbq⟩
        have f6 := f5.trans (hbz.mono f5.size)
        go_wp2_with fail
        go_ret
        exact ⟨rfl, f6.trans (hbq.mono f6.size)⟩
  · go_wp2_with (first
      | (refine wpl_load_fld (by rfl) _ _ rfl C 0 rfl (coC vt1 vc1 cH) _ d1.range Try.underlying30 rfl I1.out ?_)
      | (refine wpl_build (by rfl) _ _ rfl _ (by exact builtC9) ?_))
    refine (sayC_any _ cH HO.out 2 3 (one_ 9) rfl w3 HLT.out Y1 (cO, 0) (.inr (.inr ⟨⟨by decide, by decide⟩, by decide, HTX.out, by rw [← HCH.out]; decide, by rw [← HCH.out]; decide, by rw [← HCO.out]; rfl⟩))).mono ?_
    rintro en wy ⟨v5, rfl, hs5, hb5⟩
    obtain ⟨vt5, vc5, rfl, ht5, hc5⟩ := hs5 [C] (fun b hb => by rw [List.mem_singleton.1 hb]; exact d1.lt)
    have o5t := ht5.one
    have o5c := hc5.one
    have hcO : cO = ⟨0, one_ 1, hashL 5, [250, 250, 150, 250, 250, 250, 250, 250], [⟨2, 3, 0, 1, one_ 9, []⟩]⟩ := by rw [← HCO.out, ← HCH.out]; rfl
    have HPO : Hid (cO.pre.length = 32 ∧ cO.bank.length = 8) := (show _ ∧ _ by rw [hcO]; exact ⟨rfl, rfl⟩)
    have HB2 : Hid (cO.bank.getD 2 0 = 150) := (show _ = _ by rw [hcO]; rfl)
    have HBH : Hid (cH.bank.getD 2 0 = 250) := (show _ = _ by rw [← HCH.out]; rfl)
    obtain ⟨Ac, nc, cc, l, hve, slc, hml, hln, _, hav, hsu⟩ := hc5
    try dsimp only at hve
    subst hve
    replace hml : l.map (·.2) = cO.claims := hml
    rw [hcO] at hml
    obtain ⟨us, rfl⟩ := one_snd hml
    obtain rfl : nc = 1 := by simpa using hln.symm
    obtain ⟨As, ns, css, ls, hus, _, hls, hlns, _⟩ := hsu (us, _) (List.mem_singleton.2 rfl)
    obtain rfl : ns = 0 := by
      rw [← hlns, ← List.length_map (f := (·.2)), hls]
      rfl
    try dsimp only at hus
    subst hus
    obtain ⟨bc, oc, rfl, hltc⟩ := slc.some_ (by omega)
    have hbC : bc ≠ C := fun e => hav bc rfl (by rw [e]; simp)
    have I5 := Lib.hid (info_co (vt := vt5) (vc := .slice (some ⟨bc, oc, none⟩) 1 cc) (c := cO) HPO.out.1 HPO.out.2)
    have L5 : Hid ((coC vt5 (.slice (some ⟨bc, oc, none⟩) 1 cc) cO).length = 43) := Lib.hid (coC_len (c := cO) HPO.out.1 HPO.out.2)
    have IX := Lib.hid (info_cl (p := ((.slice As 0 css : Value), (⟨2, 3, 0, 1, one_ 9, []⟩ : CL))) rfl)
    have LX : Hid ((clF ((.slice As 0 css : Value), (⟨2, 3, 0, 1, one_ 9, []⟩ : CL))).length = 37) := Lib.hid (clF_len rfl)
    have d5 := d1.to hb5
    have f5 := g1.trans (hb5.mono g1.size)
    have SLC := Lib.hid slc
    clear hs5 ht5 hml hln hsu hls hlns slc hcO hb5 d1 g1 Y1 hav
    go_wp2_with (first
      | (refine wpl_store_new rfl _ _ _ rfl 30 _ (coC vt5 (.slice (some ⟨bc, oc, none⟩) 1 cc) cO) rfl rfl (by rw [L5.out]; rfl) I5.out (coC_one o5t rfl) ?_
         intro wz bD hbz
         simp only [Act.put, List.setIfInBounds_toArray, List.set_cons_zero, List.set_cons_succ]
         have d6 := d5.to hbz
         have k42 : wz.cell? ⟨wy.heap.size, 42, none⟩ = some (.slice (some ⟨bc, oc, none⟩) 1 cc) := by rw [bD.cell]; exact co_claims HPO.out.1 HPO.out.2
         have rgz : wz.rangeAt bc oc (clF ((.slice As 0 css : Value), (⟨2, 3, 0, 1, one_ 9, []⟩ : CL))) := (by have := (SLC.out.to hbz).range; rw [rows_one] at this; exact this))
      | (refine wpl_load_fld (by rfl) _ _ rfl bc oc rfl (clF ((.slice As 0 css : Value), (⟨2, 3, 0, 1, one_ 9, []⟩ : CL))) _ rgz Try.underlying38 rfl IX.out ?_)
      | (refine wpl_store_new rfl _ _ _ rfl 38 _ (clF ((.slice As 0 css : Value), (⟨2, 3, 0, 1, one_ 9, []⟩ : CL))) rfl rfl (by rw [LX.out]; rfl) IX.out (clF_one rfl) ?_
         intro wu bX hbX
         simp only [Act.put, List.setIfInBounds_toArray, List.set_cons_zero, List.set_cons_succ]))
    refine wp_region_P (.take 0 (.take 1 (.take 2 (.take 3 (.take 4 (.take 5 (.take 6 (.take 7 (.take 8 (.take 9 (.take 10 (.take 11 (.take 12 (.take 13 (.take 14 (.take 15 (.take 16 (.take 17 (.take 18 (.take 19 (.take 20 (.take 21 (.take 22 (.take 23 (.take 24 (.take 25 (.take 26 (.take 27 (.take 28 (.take 29 (.take 30 (.take 31 (.take 32 (.take 33 (.take 34 (.take 35 (.take 36 (.take 37 (.take 38 (.take 39 .done)))))))))))))))))))))))))))))))))))))))) ((fun a b => a = b)) (by kernel_rfl) (by kernel_rfl) (by kernel_rfl) (by decide +kernel) (fun _ => rfl) (fun _ _ _ h k => h.trans k) (by intro d v c a w h; first | (cases d <;> exact h) | exact absurd h.1 (by simp)) ?_
    have bDu := bD.to hbX
    have bCu := d6.to hbX
    have bDv : Blk wu.drew wy.heap.size 30 (coC vt5 (.slice (some ⟨bc, oc, none⟩) 1 cc) cO) := bDu
    have bCv : Blk wu.drew C 30 (coC vt1 vc1 cH) := bCu
    have bXv : Blk wu.drew wz.heap.size 38 (clF ((.slice As 0 css : Value), (⟨2, 3, 0, 1, one_ 9, []⟩ : CL))) := bX
    have fv : Below w.heap.size w wu.drew := ((f5.trans (hbz.mono f5.size)).trans (hbX.mono (Nat.le_trans f5.size hbz.size))).drew
    clear bD d6 bX hbX hbz f5 rgz k42 d5 bDu bCu
    generalize wu.drew = V0 at *
    have j36 : V0.cell? ⟨wy.heap.size, 36, none⟩ = some (.int .i64 150) := by rw [bDv.cell, ← HB2.out]; exact co_bank HPO.out.1 HPO.out.2 2 (by decide)
    have i36 : V0.cell? ⟨C, 36, none⟩ = some (.int .i64 250) := by rw [bCv.cell, ← HBH.out]; exact co_bank HO.out.pre HO.out.bank 2 (by decide)
    have x0 : V0.cell? ⟨wz.heap.size, 0, none⟩ = some (.int .i64 2) := by rw [bXv.cell]; exact cl_by
    have x1 : V0.cell? ⟨wz.heap.size, 1, none⟩ = some (.int .i64 3) := by rw [bXv.cell]; exact cl_n
    have x3 : V0.cell? ⟨wz.heap.size, 3, none⟩ = some (.int .i64 1) := by rw [bXv.cell]; exact cl_st
    have x36 : V0.cell? ⟨wz.heap.size, 36, none⟩ = some (.slice As 0 css) := by rw [bXv.cell]; exact cl_suits rfl
    have rx := bXv.sub 4 (B8 (one_ 9)) (cl_root (v := .slice As 0 css) (x := ⟨2, 3, 0, 1, one_ 9, []⟩))
    have eq9 : ∀ w', (Op.equalIn 10000 25 (.agg (B8 (one_ 9)).toArray) (.agg (B8 (one_ 9)).toArray)).run Try.prog w' = .ok true w' := fun w' => by
      rw [eq_hash (one_ 9) (one_ 9) rfl rfl w']
      simp
    first | (refine wpP_quiet (v := ?_) rfl (by rfl) ?_ ?_; rotate_left; (· (intro w' hw'; subst hw'; go_simp; try with_reducible rfl)); simp only [Act.put, List.setIfInBounds_toArray, List.set_cons_zero, List.set_cons_succ]) | (refine wpP_skip rfl (by rfl) ?_; simp only [Act.put, List.setIfInBounds_toArray, List.set_cons_zero, List.set_cons_succ])
    first | (refine wpP_quiet (v := ?_) rfl (by rfl) ?_ ?_; rotate_left; (· (intro w' hw'; subst hw'; go_simp; try with_reducible rfl)); simp only [Act.put, List.setIfInBounds_toArray, List.set_cons_zero, List.set_cons_succ]) | (refine wpP_skip rfl (by rfl) ?_; simp only [Act.put, List.setIfInBounds_toArray, List.set_cons_zero, List.set_cons_succ])
    first | (refine wpP_quiet (v := ?_) rfl (by rfl) ?_ ?_; rotate_left; (· (intro w' hw'; subst hw'; go_simp; try with_reducible rfl)); simp only [Act.put, List.setIfInBounds_toArray, List.set_cons_zero, List.set_cons_succ]) | (refine wpP_skip rfl (by rfl) ?_; simp only [Act.put, List.setIfInBounds_toArray, List.set_cons_zero, List.set_cons_succ])
    first | (refine wpP_quiet (v := ?_) rfl (by rfl) ?_ ?_; rotate_left; (· (intro w' hw'; subst hw'; go_simp; try with_reducible rfl)); simp only [Act.put, List.setIfInBounds_toArray, List.set_cons_zero, List.set_cons_succ]) | (refine wpP_skip rfl (by rfl) ?_; simp only [Act.put, List.setIfInBounds_toArray, List.set_cons_zero, List.set_cons_succ])
    first | (refine wpP_quiet (v := ?_) rfl (by rfl) ?_ ?_; rotate_left; (· (intro w' hw'; subst hw'; go_simp; try with_reducible rfl)); simp only [Act.put, List.setIfInBounds_toArray, List.set_cons_zero, List.set_cons_succ]) | (refine wpP_skip rfl (by rfl) ?_; simp only [Act.put, List.setIfInBounds_toArray, List.set_cons_zero, List.set_cons_succ])
    first | (refine wpP_quiet (v := ?_) rfl (by rfl) ?_ ?_; rotate_left; (· (intro w' hw'; subst hw'; go_simp; try with_reducible rfl)); simp only [Act.put, List.setIfInBounds_toArray, List.set_cons_zero, List.set_cons_succ]) | (refine wpP_skip rfl (by rfl) ?_; simp only [Act.put, List.setIfInBounds_toArray, List.set_cons_zero, List.set_cons_succ])
    first | (refine wpP_quiet (v := ?_) rfl (by rfl) ?_ ?_; rotate_left; (· (intro w' hw'; subst hw'; go_simp; try with_reducible rfl)); simp only [Act.put, List.setIfInBounds_toArray, List.set_cons_zero, List.set_cons_succ]) | (refine wpP_skip rfl (by rfl) ?_; simp only [Act.put, List.setIfInBounds_toArray, List.set_cons_zero, List.set_cons_succ])
    first | (refine wpP_quiet (v := ?_) rfl (by rfl) ?_ ?_; rotate_left; (· (intro w' hw'; subst hw'; go_simp; try with_reducible rfl)); simp only [Act.put, List.setIfInBounds_toArray, List.set_cons_zero, List.set_cons_succ]) | (refine wpP_skip rfl (by rfl) ?_; simp only [Act.put, List.setIfInBounds_toArray, List.set_cons_zero, List.set_cons_succ])
    first | (refine wpP_quiet (v := ?_) rfl (by rfl) ?_ ?_; rotate_left; (· (intro w' hw'; subst hw'; go_simp; try with_reducible rfl)); simp only [Act.put, List.setIfInBounds_toArray, List.set_cons_zero, List.set_cons_succ]) | (refine wpP_skip rfl (by rfl) ?_; simp only [Act.put, List.setIfInBounds_toArray, List.set_cons_zero, List.set_cons_succ])
    first | (refine wpP_quiet (v := ?_) rfl (by rfl) ?_ ?_; rotate_left; (· (intro w' hw'; subst hw'; go_simp; try with_reducible rfl)); simp only [Act.put, List.setIfInBounds_toArray, List.set_cons_zero, List.set_cons_succ]) | (refine wpP_skip rfl (by rfl) ?_; simp only [Act.put, List.setIfInBounds_toArray, List.set_cons_zero, List.set_cons_succ])
    first | (refine wpP_quiet (v := ?_) rfl (by rfl) ?_ ?_; rotate_left; (· (intro w' hw'; subst hw'; go_simp; try with_reducible rfl)); simp only [Act.put, List.setIfInBounds_toArray, List.set_cons_zero, List.set_cons_succ]) | (refine wpP_skip rfl (by rfl) ?_; simp only [Act.put, List.setIfInBounds_toArray, List.set_cons_zero, List.set_cons_succ])
    first | (refine wpP_quiet (v := ?_) rfl (by rfl) ?_ ?_; rotate_left; (· (intro w' hw'; subst hw'; go_simp; try with_reducible rfl)); simp only [Act.put, List.setIfInBounds_toArray, List.set_cons_zero, List.set_cons_succ]) | (refine wpP_skip rfl (by rfl) ?_; simp only [Act.put, List.setIfInBounds_toArray, List.set_cons_zero, List.set_cons_succ])
    first | (refine wpP_quiet (v := ?_) rfl (by rfl) ?_ ?_; rotate_left; (· (intro w' hw'; subst hw'; go_simp; try with_reducible rfl)); simp only [Act.put, List.setIfInBounds_toArray, List.set_cons_zero, List.set_cons_succ]) | (refine wpP_skip rfl (by rfl) ?_; simp only [Act.put, List.setIfInBounds_toArray, List.set_cons_zero, List.set_cons_succ])
    first | (refine wpP_quiet (v := ?_) rfl (by rfl) ?_ ?_; rotate_left; (· (intro w' hw'; subst hw'; go_simp; try with_reducible rfl)); simp only [Act.put, List.setIfInBounds_toArray, List.set_cons_zero, List.set_cons_succ]) | (refine wpP_skip rfl (by rfl) ?_; simp only [Act.put, List.setIfInBounds_toArray, List.set_cons_zero, List.set_cons_succ])
    first | (refine wpP_quiet (v := ?_) rfl (by rfl) ?_ ?_; rotate_left; (· (intro w' hw'; subst hw'; go_simp; try with_reducible rfl)); simp only [Act.put, List.setIfInBounds_toArray, List.set_cons_zero, List.set_cons_succ]) | (refine wpP_skip rfl (by rfl) ?_; simp only [Act.put, List.setIfInBounds_toArray, List.set_cons_zero, List.set_cons_succ])
    first | (refine wpP_quiet (v := ?_) rfl (by rfl) ?_ ?_; rotate_left; (· (intro w' hw'; subst hw'; go_simp; try with_reducible rfl)); simp only [Act.put, List.setIfInBounds_toArray, List.set_cons_zero, List.set_cons_succ]) | (refine wpP_skip rfl (by rfl) ?_; simp only [Act.put, List.setIfInBounds_toArray, List.set_cons_zero, List.set_cons_succ])
    first | (refine wpP_quiet (v := ?_) rfl (by rfl) ?_ ?_; rotate_left; (· (intro w' hw'; subst hw'; go_simp; try with_reducible rfl)); simp only [Act.put, List.setIfInBounds_toArray, List.set_cons_zero, List.set_cons_succ]) | (refine wpP_skip rfl (by rfl) ?_; simp only [Act.put, List.setIfInBounds_toArray, List.set_cons_zero, List.set_cons_succ])
    first | (refine wpP_quiet (v := ?_) rfl (by rfl) ?_ ?_; rotate_left; (· (intro w' hw'; subst hw'; go_simp; try with_reducible rfl)); simp only [Act.put, List.setIfInBounds_toArray, List.set_cons_zero, List.set_cons_succ]) | (refine wpP_skip rfl (by rfl) ?_; simp only [Act.put, List.setIfInBounds_toArray, List.set_cons_zero, List.set_cons_succ])
    first | (refine wpP_quiet (v := ?_) rfl (by rfl) ?_ ?_; rotate_left; (· (intro w' hw'; subst hw'; go_simp; try with_reducible rfl)); simp only [Act.put, List.setIfInBounds_toArray, List.set_cons_zero, List.set_cons_succ]) | (refine wpP_skip rfl (by rfl) ?_; simp only [Act.put, List.setIfInBounds_toArray, List.set_cons_zero, List.set_cons_succ])
    first | (refine wpP_quiet (v := ?_) rfl (by rfl) ?_ ?_; rotate_left; (· (intro w' hw'; subst hw'; go_simp; try with_reducible rfl)); simp only [Act.put, List.setIfInBounds_toArray, List.set_cons_zero, List.set_cons_succ]) | (refine wpP_skip rfl (by rfl) ?_; simp only [Act.put, List.setIfInBounds_toArray, List.set_cons_zero, List.set_cons_succ])
    first | (refine wpP_quiet (v := ?_) rfl (by rfl) ?_ ?_; rotate_left; (· (intro w' hw'; subst hw'; go_simp; try with_reducible rfl)); simp only [Act.put, List.setIfInBounds_toArray, List.set_cons_zero, List.set_cons_succ]) | (refine wpP_skip rfl (by rfl) ?_; simp only [Act.put, List.setIfInBounds_toArray, List.set_cons_zero, List.set_cons_succ])
    first | (refine wpP_quiet (v := ?_) rfl (by rfl) ?_ ?_; rotate_left; (· (intro w' hw'; subst hw'; go_simp; try with_reducible rfl)); simp only [Act.put, List.setIfInBounds_toArray, List.set_cons_zero, List.set_cons_succ]) | (refine wpP_skip rfl (by rfl) ?_; simp only [Act.put, List.setIfInBounds_toArray, List.set_cons_zero, List.set_cons_succ])
    first | (refine wpP_quiet (v := ?_) rfl (by rfl) ?_ ?_; rotate_left; (· (intro w' hw'; subst hw'; go_simp; try with_reducible rfl)); simp only [Act.put, List.setIfInBounds_toArray, List.set_cons_zero, List.set_cons_succ]) | (refine wpP_skip rfl (by rfl) ?_; simp only [Act.put, List.setIfInBounds_toArray, List.set_cons_zero, List.set_cons_succ])
    first | (refine wpP_quiet (v := ?_) rfl (by rfl) ?_ ?_; rotate_left; (· (intro w' hw'; subst hw'; go_simp; try with_reducible rfl)); simp only [Act.put, List.setIfInBounds_toArray, List.set_cons_zero, List.set_cons_succ]) | (refine wpP_skip rfl (by rfl) ?_; simp only [Act.put, List.setIfInBounds_toArray, List.set_cons_zero, List.set_cons_succ])
    first | (refine wpP_quiet (v := ?_) rfl (by rfl) ?_ ?_; rotate_left; (· (intro w' hw'; subst hw'; go_simp; try with_reducible rfl)); simp only [Act.put, List.setIfInBounds_toArray, List.set_cons_zero, List.set_cons_succ]) | (refine wpP_skip rfl (by rfl) ?_; simp only [Act.put, List.setIfInBounds_toArray, List.set_cons_zero, List.set_cons_succ])
    first | (refine wpP_quiet (v := ?_) rfl (by rfl) ?_ ?_; rotate_left; (· (intro w' hw'; subst hw'; go_simp; try with_reducible rfl)); simp only [Act.put, List.setIfInBounds_toArray, List.set_cons_zero, List.set_cons_succ]) | (refine wpP_skip rfl (by rfl) ?_; simp only [Act.put, List.setIfInBounds_toArray, List.set_cons_zero, List.set_cons_succ])
    first | (refine wpP_quiet (v := ?_) rfl (by rfl) ?_ ?_; rotate_left; (· (intro w' hw'; subst hw'; go_simp; try with_reducible rfl)); simp only [Act.put, List.setIfInBounds_toArray, List.set_cons_zero, List.set_cons_succ]) | (refine wpP_skip rfl (by rfl) ?_; simp only [Act.put, List.setIfInBounds_toArray, List.set_cons_zero, List.set_cons_succ])
    first | (refine wpP_quiet (v := ?_) rfl (by rfl) ?_ ?_; rotate_left; (· (intro w' hw'; subst hw'; go_simp; try with_reducible rfl)); simp only [Act.put, List.setIfInBounds_toArray, List.set_cons_zero, List.set_cons_succ]) | (refine wpP_skip rfl (by rfl) ?_; simp only [Act.put, List.setIfInBounds_toArray, List.set_cons_zero, List.set_cons_succ])
    first | (refine wpP_quiet (v := ?_) rfl (by rfl) ?_ ?_; rotate_left; (· (intro w' hw'; subst hw'; go_simp; try with_reducible rfl)); simp only [Act.put, List.setIfInBounds_toArray, List.set_cons_zero, List.set_cons_succ]) | (refine wpP_skip rfl (by rfl) ?_; simp only [Act.put, List.setIfInBounds_toArray, List.set_cons_zero, List.set_cons_succ])
    refine wpP_load rfl (by rfl) _ _ rfl wz.heap.size 4 rfl (B8 (one_ 9)) _ (fun w' h => by subst h; exact rx) Try.underlying25 rfl (info_hash rfl) ?_
    simp only [Act.put, List.setIfInBounds_toArray, List.set_cons_zero, List.set_cons_succ]
    refine wpP_build rfl (by rfl) _ _ rfl _ (by exact builtC9) ?_
    simp only [Act.put, List.setIfInBounds_toArray, List.set_cons_zero, List.set_cons_succ]
    first | (refine wpP_quiet (v := ?_) rfl (by rfl) ?_ ?_; rotate_left; (· (intro w' hw'; subst hw'; go_simp; try with_reducible rfl)); simp only [Act.put, List.setIfInBounds_toArray, List.set_cons_zero, List.set_cons_succ]) | (refine wpP_skip rfl (by rfl) ?_; simp only [Act.put, List.setIfInBounds_toArray, List.set_cons_zero, List.set_cons_succ])
    first | (refine wpP_quiet (v := ?_) rfl (by rfl) ?_ ?_; rotate_left; (· (intro w' hw'; subst hw'; go_simp; try with_reducible rfl)); simp only [Act.put, List.setIfInBounds_toArray, List.set_cons_zero, List.set_cons_succ]) | (refine wpP_skip rfl (by rfl) ?_; simp only [Act.put, List.setIfInBounds_toArray, List.set_cons_zero, List.set_cons_succ])
    first | (refine wpP_quiet (v := ?_) rfl (by rfl) ?_ ?_; rotate_left; (· (intro w' hw'; subst hw'; go_simp; try with_reducible rfl)); simp only [Act.put, List.setIfInBounds_toArray, List.set_cons_zero, List.set_cons_succ]) | (refine wpP_skip rfl (by rfl) ?_; simp only [Act.put, List.setIfInBounds_toArray, List.set_cons_zero, List.set_cons_succ])
    first | (refine wpP_quiet (v := ?_) rfl (by rfl) ?_ ?_; rotate_left; (· (intro w' hw'; subst hw'; go_simp; try with_reducible rfl)); simp only [Act.put, List.setIfInBounds_toArray, List.set_cons_zero, List.set_cons_succ]) | (refine wpP_skip rfl (by rfl) ?_; simp only [Act.put, List.setIfInBounds_toArray, List.set_cons_zero, List.set_cons_succ])
    first | (refine wpP_quiet (v := ?_) rfl (by rfl) ?_ ?_; rotate_left; (· (intro w' hw'; subst hw'; go_simp; try with_reducible rfl)); simp only [Act.put, List.setIfInBounds_toArray, List.set_cons_zero, List.set_cons_succ]) | (refine wpP_skip rfl (by rfl) ?_; simp only [Act.put, List.setIfInBounds_toArray, List.set_cons_zero, List.set_cons_succ])
    first | (refine wpP_quiet (v := ?_) rfl (by rfl) ?_ ?_; rotate_left; (· (intro w' hw'; subst hw'; go_simp; try with_reducible rfl)); simp only [Act.put, List.setIfInBounds_toArray, List.set_cons_zero, List.set_cons_succ]) | (refine wpP_skip rfl (by rfl) ?_; simp only [Act.put, List.setIfInBounds_toArray, List.set_cons_zero, List.set_cons_succ])
    first | (refine wpP_quiet (v := ?_) rfl (by rfl) ?_ ?_; rotate_left; (· (intro w' hw'; subst hw'; go_simp; try with_reducible rfl)); simp only [Act.put, List.setIfInBounds_toArray, List.set_cons_zero, List.set_cons_succ]) | (refine wpP_skip rfl (by rfl) ?_; simp only [Act.put, List.setIfInBounds_toArray, List.set_cons_zero, List.set_cons_succ])
    first | (refine wpP_quiet (v := ?_) rfl (by rfl) ?_ ?_; rotate_left; (· (intro w' hw'; subst hw'; go_simp; try with_reducible rfl)); simp only [Act.put, List.setIfInBounds_toArray, List.set_cons_zero, List.set_cons_succ]) | (refine wpP_skip rfl (by rfl) ?_; simp only [Act.put, List.setIfInBounds_toArray, List.set_cons_zero, List.set_cons_succ])
    first | (refine wpP_quiet (v := ?_) rfl (by rfl) ?_ ?_; rotate_left; (· (intro w' hw'; subst hw'; go_simp; try with_reducible rfl)); simp only [Act.put, List.setIfInBounds_toArray, List.set_cons_zero, List.set_cons_succ]) | (refine wpP_skip rfl (by rfl) ?_; simp only [Act.put, List.setIfInBounds_toArray, List.set_cons_zero, List.set_cons_succ])
    refine wpP_done ?_
    go_wp2_with fail
    go_ret
    exact ⟨rfl, fv⟩
end Go.Proofs.Ytgljcfemindgoaa
