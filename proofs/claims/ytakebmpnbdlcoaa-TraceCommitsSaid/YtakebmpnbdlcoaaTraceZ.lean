/- Walks: the document's path of a row of sums. -/
import Derived.Test.YtakebmpnbdlcoaaTraceX
set_option linter.unusedSimpArgs false
set_option linter.unusedVariables false
namespace Go.Proofs.Ytakebmpnbdlcoaa
open Go.RowKit
set_option maxRecDepth 100000
theorem refPath_bad (A : Option Addr) (n c : Nat) (i : Int) (w : World) (hi : i < 0 ∨ (n : Int) ≤ i) :
    Calls Try.prog 32 #[.slice A n c, .int .i64 i] w fun e w' => e = .returned (.tuple #[.slice none 0 0, .int .i64 1]) ∧ w = w' := by
  have hi : i < 0 ∨ ¬ i < 0 ∧ (n : Int) ≤ i := by omega
  go_enter Try.func32, Try.ntmps32
  rcases hi with h | ⟨h, h2⟩
  all_goals
    go_wp2_with fail
    go_ret2
    exact ⟨rfl, rfl⟩
set_option maxRecDepth 100000 in
set_option maxHeartbeats 4000000 in
theorem refPath_any (M : Nat) : ∀ (n i : Nat) (A : Option Addr) (c : Nat) (hs : List (List UInt8)) (w : World), n ≤ M → n ≤ c → c ≤ maxLen → n ≤ 1073741824 → (∀ x ∈ hs, x.length = 32) → hs.length = n → Sl w 32 A n (H8 hs) → i < n →
    Calls Try.prog 32 #[.slice A n c, .int .i64 (i : Int)] w (RSt w (pathS hs i)) := by
  induction M with
  | zero =>
    intro n i A c hs w hm hnc hc hn hl hlen sl hi
    omega
  | succ M ih =>
    intro n i A c hs w hm hnc hc hn hl hlen sl hi
    by_cases hle : n ≤ M
    · exact ih n i A c hs w hle hnc hc hn hl hlen sl hi
    have a1 : ¬ (i : Int) < 0 := by omega
    have a2 : ¬ (n : Int) ≤ (i : Int) := by omega
    have HM : Hid (n = M + 1) := (show _ = _ by omega)
    have HLN := Lib.hid hlen
    have HL := Lib.hid hl
    have HC := Lib.hid hc
    clear hlen hl hc
    by_cases h1 : n = 1
    · have t1 : (n : Int) = 1 := by omega
      have HP : Hid (pathS hs i = []) := pathS_one i (by rw [HLN.out]; omega)
      go_enter Try.func32, Try.ntmps32
      go_wp2_with fail
      go_ret2
      rw [HP.out]
      exact ⟨none, 0, rfl, Own.nil_, Below.refl _ _⟩
    · have h2 : 2 ≤ n := by omega
      have t1 : ¬ (n : Int) = 1 := by omega
      have hs1 := split_lt (n := n) h2
      have hs2 := split_pos n
      have hc63 : c ≤ 9223372036854775807 := by have := HC.out; simp only [maxLen] at this; omega
      have hlo := @pathS_lo hs i (by rw [HLN.out]; exact h2)
      have hhi := @pathS_hi hs i (by rw [HLN.out]; exact h2)
      rw [HLN.out] at hlo hhi
      have HLO := Lib.hid hlo
      have HHI := Lib.hid hhi
      have HK1 : Hid (splitN n ≤ M) := (show _ ≤ _ by have := HM.out; omega)
      have HK2 : Hid (n - splitN n ≤ M) := (show _ ≤ _ by have := HM.out; omega)
      clear hlo hhi
      obtain ⟨b, of, rfl, hb⟩ := sl.some_ (by omega)
      go_enter Try.func32, Try.ntmps32
      go_wp2_with fail
      refine (refSplit_any n w h2 (by omega)).mono ?_
      rintro e w0 ⟨rfl, rfl⟩
      generalize hsp : splitN n = s at *
      clear hsp
      have kc : (s : Int) ≤ (c : Int) := by omega
      have kn : (s : Int) ≤ (n : Int) := by omega
      have ck : ¬ c = s := by omega
      have slf := sl.front32 HL.out (k := s) (by omega)
      have slb := sl.back32 HL.out (k := s) (by omega)
      clear sl
      by_cases h3 : i < s
      · have t2 : (i : Int) < (s : Int) := by omega
        go_wp2_with fail
        refine (ih s i _ c (hs.take s) w HK1.out (by omega) HC.out (by omega) (len32_take HL.out s) (by rw [List.length_take, HLN.out]; omega) slf h3).mono ?_
        rintro e w1 ⟨A1, c1, rfl, ho1, hb1⟩
        have HPL := Lib.hid (path_len (hs := hs.take s) (i := i) (by rw [List.length_take, HLN.out]; omega))
        go_wp2_with fail
        refine (refCommit_any n (n - s) _ (c - s) (hs.drop s) w1 (by omega) (by omega) (by have := HC.out; omega) (by omega) (len32_drop HL.out s) (by rw [List.length_drop, HLN.out]) (slb.to hb1)).mono ?_
        rintro e w2 ⟨rfl, hb2⟩
        have HSM := Lib.hid (commitS_len (hs.drop s) (len32_drop HL.out s))
        have HE : Hid (pathS hs i = pathS (hs.take s) i ++ [commitS (hs.drop s)]) := HLO.out h3
        generalize commitS (hs.drop s) = sm at *
        generalize pathS (hs.take s) i = pp at *
        unfold hv
        have ho2 := ho1.to hb2
        have f2 := hb1.trans (hb2.mono hb1.size)
        have hz2 := f2.size
        have hp30 := HPL.out
        have hbl2 : (B8 sm).length = 32 := by rw [B8_len, HSM.out]
        clear slf slb ho1 hb1 hb2
        go_wp2_with (first
          | (at_builtin
             rw [fold_sum' sm HSM.out]
             refine wpl_push _ _ _ elH rfl rfl rfl ho2 rfl (by rw [List.size_toArray, B8_len, HSM.out]) (by intro u hu; exact B8_one _ u (by simpa using hu)) (by omega) (by omega) hz2 ?_
             intro A3 c3 w3 g3 h3 gb3))
        go_ret2
        refine ⟨A3, c3, ?_, ?_, f2.trans h3⟩
        · rw [HE.out, List.length_append]; rfl
        · have := g3.own
          rw [HE.out, H8_snoc, List.length_append]
          exact this
      · have t2 : ¬ (i : Int) < (s : Int) := by omega
        have u2 : (i : Int) - (s : Int) = ((i - s : Nat) : Int) := by omega
        go_wp2_with fail
        refine (ih (n - s) (i - s) _ (c - s) (hs.drop s) w HK2.out (by omega) (by have := HC.out; omega) (by omega) (len32_drop HL.out s) (by rw [List.length_drop, HLN.out]) slb (by omega)).mono ?_
        rintro e w1 ⟨A1, c1, rfl, ho1, hb1⟩
        have HPL := Lib.hid (path_len (hs := hs.drop s) (i := i - s) (by rw [List.length_drop, HLN.out]; omega))
        go_wp2_with fail
        refine (refCommit_any n s _ c (hs.take s) w1 (by omega) (by omega) HC.out (by omega) (len32_take HL.out s) (by rw [List.length_take, HLN.out]; omega) (slf.to hb1)).mono ?_
        rintro e w2 ⟨rfl, hb2⟩
        have HSM := Lib.hid (commitS_len (hs.take s) (len32_take HL.out s))
        have HE : Hid (pathS hs i = pathS (hs.drop s) (i - s) ++ [commitS (hs.take s)]) := HHI.out (by omega)
        generalize commitS (hs.take s) = sm at *
        generalize pathS (hs.drop s) (i - s) = pp at *
        unfold hv
        have ho2 := ho1.to hb2
        have f2 := hb1.trans (hb2.mono hb1.size)
        have hz2 := f2.size
        have hp30 := HPL.out
        have hbl2 : (B8 sm).length = 32 := by rw [B8_len, HSM.out]
        clear slf slb ho1 hb1 hb2
        go_wp2_with (first
          | (at_builtin
             rw [fold_sum' sm HSM.out]
             refine wpl_push _ _ _ elH rfl rfl rfl ho2 rfl (by rw [List.size_toArray, B8_len, HSM.out]) (by intro u hu; exact B8_one _ u (by simpa using hu)) (by omega) (by omega) hz2 ?_
             intro A3 c3 w3 g3 h3 gb3))
        go_ret2
        refine ⟨A3, c3, ?_, ?_, f2.trans h3⟩
        · rw [HE.out, List.length_append]; rfl
        · have := g3.own
          rw [HE.out, H8_snoc, List.length_append]
          exact this
end Go.Proofs.Ytakebmpnbdlcoaa
