/- The walk of capstanlaw1.CodeMany. -/
import Derived.Test.YtoecbgdkbncfbaaRead5
namespace Go.Proofs.Ytoecbgdkbncfbaa
open Go.RowKit
theorem stText_many (N : Int) (more : List UInt8) (h1 : -9223372036854775808 ≤ N) (h2 : N < 9223372036854775808) (h : N < 0 ∨ 65535 < N) : stText (enc (zig N) ++ more, 0) = ([], ([], 4)) := by
  simp [stText, dec_enc0 (zig N) more (zig_lt h1 h2), zag_zig, h]
set_option maxHeartbeats 1000000 in
theorem codeMany_walk (w : World) (n : Int) (n_lo : -9223372036854775808 ≤ n) (n_hi : n < 9223372036854775808) (A : Option Addr) (m c : Nat) (bs : List UInt8) (hnc : m ≤ c) (hc : c ≤ maxLen) (sl : Sl w 1 A m (B8 bs)) :
    Calls Try.prog 7 #[.int .i64 n, .slice A m c] w (RB true w) := by
  clear hnc hc
  by_cases h50 : (50 : Int) < m
  · go_enter Try.func7, Try.ntmps7
    go_wp2_with fail
    refine (known_any _).mono ?_
    rintro e w1 ⟨rfl, hb1⟩
    go_wp2
    go_ret
    exact ⟨rfl, hb1⟩
  · have hm : m ≤ 50 := by omega
    by_cases hn0 : 0 ≤ n
    · by_cases hn1 : n ≤ 65535
      · have TM := Lib.hid (stText_many (65536 + n) bs (by omega) (by omega) (by omega))
        go_enter Try.func7, Try.ntmps7
        go_wp2_with fail
        refine (known_any _).mono ?_
        rintro e w1 ⟨rfl, hb1⟩
        go_wp2_with fail
        refine (int_any none 0 0 [] (65536 + n) _ Sl.nil_ (by omega) (by omega) (by omega)).mono ?_
        rintro e w2 ⟨A2, n2, c2, rfl, ho2, hb2⟩
        have fin2 := hb1.trans (hb2.mono hb1.size)
        have l2 := ho2.len8
        have l3 := enc_le (zig_lt (n := 65536 + n) (by omega) (by omega))
        rw [List.nil_append] at l2
        have l4 : n2 ≤ 10 := by omega
        clear l2 l3
        go_wp2_with (first
          | (at_builtin
             refine wpl_app _ _ _ _ elB rfl rfl rfl ho2 rfl (sl.to fin2) (B8_one _) (by omega) (by omega) hb2.size ?_
             intro A3 c3 w3 g3))
        have sl3 := g3.own.sl
        rw [List.nil_append, ← B8_app] at sl3
        have fin3 := fin2.trans ((g3.below ho2 hb2.size).mono hb1.size)
        refine (new_any A3 (n2 + m) c3 (enc (zig (65536 + n)) ++ bs) _ sl3 (by omega)).mono ?_
        rintro e w4 ⟨p, rfl, hp, hr4, hb4⟩
        go_wp2_with fail
        refine (rText_any p (_, 0) _ hr4).mono ?_
        rw [TM.out]
        rintro e w5 ⟨A5, n5, c5, rfl, ho5, hr5, hb5⟩
        obtain rfl : n5 = 0 := ho5.len8
        have fin5 := fin3.trans (Below.mono (hb4.trans (below_but hb5 hp hb4.size)) fin3.size)
        go_wp2_with fail
        refine (rEnd_any p ([], 4) _ hr5).mono ?_
        rintro e w' ⟨rfl, rfl⟩
        rw [show stEnd ([], 4) = 4 from rfl]
        go_wp2
        go_ret
        exact ⟨rfl, fin5⟩
      · have TM := Lib.hid (stText_many n bs n_lo n_hi (by omega))
        go_enter Try.func7, Try.ntmps7
        go_wp2_with fail
        refine (known_any _).mono ?_
        rintro e w1 ⟨rfl, hb1⟩
        go_wp2_with fail
        refine (int_any none 0 0 [] n _ Sl.nil_ (by omega) n_lo n_hi).mono ?_
        rintro e w2 ⟨A2, n2, c2, rfl, ho2, hb2⟩
        have fin2 := hb1.trans (hb2.mono hb1.size)
        have l2 := ho2.len8
        have l3 := enc_le (zig_lt n_lo n_hi)
        rw [List.nil_append] at l2
        have l4 : n2 ≤ 10 := by omega
        clear l2 l3
        go_wp2_with (first
          | (at_builtin
             refine wpl_app _ _ _ _ elB rfl rfl rfl ho2 rfl (sl.to fin2) (B8_one _) (by omega) (by omega) hb2.size ?_
             intro A3 c3 w3 g3))
        have sl3 := g3.own.sl
        rw [List.nil_append, ← B8_app] at sl3
        have fin3 := fin2.trans ((g3.below ho2 hb2.size).mono hb1.size)
        refine (new_any A3 (n2 + m) c3 (enc (zig n) ++ bs) _ sl3 (by omega)).mono ?_
        rintro e w4 ⟨p, rfl, hp, hr4, hb4⟩
        go_wp2_with fail
        refine (rText_any p (_, 0) _ hr4).mono ?_
        rw [TM.out]
        rintro e w5 ⟨A5, n5, c5, rfl, ho5, hr5, hb5⟩
        obtain rfl : n5 = 0 := ho5.len8
        have fin5 := fin3.trans (Below.mono (hb4.trans (below_but hb5 hp hb4.size)) fin3.size)
        go_wp2_with fail
        refine (rEnd_any p ([], 4) _ hr5).mono ?_
        rintro e w' ⟨rfl, rfl⟩
        rw [show stEnd ([], 4) = 4 from rfl]
        go_wp2
        go_ret
        exact ⟨rfl, fin5⟩
    · have TM := Lib.hid (stText_many n bs n_lo n_hi (by omega))
      have hd : decide (0 ≤ n) = false := by simpa using hn0
      go_enter Try.func7, Try.ntmps7
      go_wp2_with fail
      refine (known_any _).mono ?_
      rintro e w1 ⟨rfl, hb1⟩
      go_wp2_with fail
      refine (int_any none 0 0 [] n _ Sl.nil_ (by omega) n_lo n_hi).mono ?_
      rintro e w2 ⟨A2, n2, c2, rfl, ho2, hb2⟩
      have fin2 := hb1.trans (hb2.mono hb1.size)
      have l2 := ho2.len8
      have l3 := enc_le (zig_lt n_lo n_hi)
      rw [List.nil_append] at l2
      have l4 : n2 ≤ 10 := by omega
      clear l2 l3
      go_wp2_with (first
        | (at_builtin
           refine wpl_app _ _ _ _ elB rfl rfl rfl ho2 rfl (sl.to fin2) (B8_one _) (by omega) (by omega) hb2.size ?_
           intro A3 c3 w3 g3))
      have sl3 := g3.own.sl
      rw [List.nil_append, ← B8_app] at sl3
      have fin3 := fin2.trans ((g3.below ho2 hb2.size).mono hb1.size)
      refine (new_any A3 (n2 + m) c3 (enc (zig n) ++ bs) _ sl3 (by omega)).mono ?_
      rintro e w4 ⟨p, rfl, hp, hr4, hb4⟩
      go_wp2_with fail
      refine (rText_any p (_, 0) _ hr4).mono ?_
      rw [TM.out]
      rintro e w5 ⟨A5, n5, c5, rfl, ho5, hr5, hb5⟩
      obtain rfl : n5 = 0 := ho5.len8
      have fin5 := fin3.trans (Below.mono (hb4.trans (below_but hb5 hp hb4.size)) fin3.size)
      go_wp2_with fail
      refine (rEnd_any p ([], 4) _ hr5).mono ?_
      rintro e w' ⟨rfl, rfl⟩
      rw [show stEnd ([], 4) = 4 from rfl]
      go_wp2
      go_ret
      exact ⟨rfl, fin5⟩
end Go.Proofs.Ytoecbgdkbncfbaa
