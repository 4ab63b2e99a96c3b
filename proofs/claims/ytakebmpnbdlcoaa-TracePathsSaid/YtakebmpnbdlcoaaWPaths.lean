/- The walk of capstanlaw12.TracePaths. -/
import Derived.Test.YtakebmpnbdlcoaaTraceK
set_option linter.unusedSimpArgs false
set_option linter.unusedVariables false
namespace Go.Proofs.Ytakebmpnbdlcoaa
open Go.RowKit
set_option maxRecDepth 100000
theorem path_short {hs : List (List UInt8)} {i n L : Nat} (hn : hs.length = n) (h : n ≤ 2 ^ L) : (pathS hs i).length ≤ L := by
  rw [path_sides hs.length hs i (Nat.le_refl _), hn]
  exact sides_len L n i h
theorem path_none {hs : List (List UInt8)} {i n : Nat} (hn : hs.length = n) (h : 1 ≤ n) : ((pathS hs i).length = 0) ↔ n = 1 := by
  rw [path_sides hs.length hs i (Nat.le_refl _), hn]
  constructor
  · intro h2
    rcases Nat.lt_or_ge n 2 with h3 | h3
    · omega
    · exact absurd h2 (sides_pos h3)
  · rintro rfl
    rw [sidesS_one i (Nat.le_refl _)]
    rfl
set_option maxRecDepth 100000 in
set_option maxHeartbeats 4000000 in
theorem tracePaths_walk (w : World) (a : Int) (a_lo : -9223372036854775808 ≤ a) (a_hi : a < 9223372036854775808) (b : Int) (b_lo : -9223372036854775808 ≤ b) (b_hi : b < 9223372036854775808) :
    Calls Try.prog 14 #[.int .i64 a, .int .i64 b] w (RB true w) := by
  go_enter Try.func14, Try.ntmps14
  go_wp2_with fail
  refine (traceKnown_any w).mono ?_
  rintro e w1 ⟨rfl, h1⟩
  go_wp2_with fail
  refine (within_capstanlaw12 a 100 w1 (by omega) (by omega) a_lo a_hi).mono ?_
  rintro e w1' ⟨rfl, rfl⟩
  obtain ⟨n, hn⟩ : ∃ n : Nat, 1 + a % 100 = (n : Int) := ⟨(1 + a % 100).toNat, by omega⟩
  have hn1 : 1 ≤ n := by omega
  have hn2 : n ≤ 100 := by omega
  go_wp2_with fail
  refine (within_capstanlaw12 b (n : Int) w1 (by omega) (by omega) b_lo b_hi).mono ?_
  rintro e w1' ⟨rfl, rfl⟩
  obtain ⟨i, hi⟩ : ∃ i : Nat, b % (n : Int) = (i : Int) := ⟨(b % (n : Int)).toNat, by have := Int.emod_nonneg b (show (n : Int) ≠ 0 by omega); omega⟩
  have hin : i < n := by have := Int.emod_lt_of_pos b (show 0 < (n : Int) by omega); omega
  rw [hi]
  clear hn hi a_lo a_hi b_lo b_hi
  have HHL := Lib.hid (hashL_len n)
  have HHA := Lib.hid (hashL_all n)
  go_wp2_with fail
  refine (hashes_any n w1 (by omega)).mono ?_
  rintro e w2 ⟨A2, c2, rfl, ho2, h2⟩
  have hle2 := ho2.le
  go_wp2_with fail
  refine (path_any A2 n c2 (hashL n) i w2 hle2.1 hle2.2 (by omega) HHA.out HHL.out ho2.sl hin).mono ?_
  rintro e w3 ⟨A3, c3, rfl, ho3, h3⟩
  have hps := @path_short (hashL n) i n
  have hpn := path_none (i := i) HHL.out hn1
  have HPS := Lib.hid (fun L => hps (L := L) HHL.out)
  have f3 : Below w.heap.size w w3 := (h1.trans (h2.mono h1.size)).trans (h3.mono (by have := h1.size; have := h2.size; omega))
  generalize (pathS (hashL n) i).length = m at *
  have HPN := Lib.hid hpn
  clear hpn hps ho3 ho2 h2 h3 hle2
  go_wp2_with fail
  go_loopw [7] (fun l wr => ∃ L : Nat, l = .int .i64 (L : Int) ∧ L ≤ 7 ∧ wr = w3) (fun l _ => 8 - (intOf l).toNat)
  case atStart => exact ⟨0, rfl, by omega, rfl⟩
  case round =>
    obtain ⟨L, rfl, hL, rfl⟩ := hrel
    obtain ⟨M, hM⟩ : ∃ M, M = 2 ^ L := ⟨_, rfl⟩
    have hM128 : M ≤ 128 := by rw [hM]; exact Nat.pow_le_pow_right (by decide) hL
    have k1 : wrap64 ((2 : Int) ^ L) = (M : Int) := by
      rw [show ((2 : Int) ^ L) = (M : Int) from by rw [hM]; simp]
      exact IntWalk.wrap64_in _ (by omega)
    have HM := Lib.hid hM
    clear hM
    by_cases hlt : M < n
    · have t1 : (M : Int) < (n : Int) := by omega
      have hL6 : L ≤ 6 := by
        rcases Nat.lt_or_ge 6 L with h | h
        · have := Nat.pow_le_pow_right (show 0 < 2 by decide) h
          rw [← HM.out] at this
          omega
        · exact h
      go_wp2_with fail
      clear k1
      go_roundw
      case rel => exact ⟨L + 1, by go_num, by omega, trivial⟩
      case measure => simp [intOf]; omega
    · have t1 : ¬ (M : Int) < (n : Int) := by omega
      have hmL : m ≤ L := HPS.out L (by rw [← HM.out]; omega)
      go_wp2_with fail
      clear k1
      refine (hashes_any n wr (by omega)).mono ?_
      rintro e w4 ⟨A4, c4, rfl, ho4, h4⟩
      go_wp2_with fail
      refine (path_bad A4 n c4 (n : Int) w4 (Or.inr (Int.le_refl _))).mono ?_
      rintro e w4' ⟨rfl, rfl⟩
      have f4 := f3.trans (h4.mono f3.size)
      clear ho4 h4
      go_wp2_with fail
      refine (hashes_any n w4 (by omega)).mono ?_
      rintro e w5 ⟨A5, c5, rfl, ho5, h5⟩
      go_wp2_with fail
      refine (path_bad A5 n c5 (-1) w5 (Or.inl (by decide))).mono ?_
      rintro e w5' ⟨rfl, rfl⟩
      have f5 := f4.trans (h5.mono f4.size)
      clear ho5 h5
      go_wp2_with fail
      refine (path_bad none 0 0 0 w5 (Or.inr (by decide))).mono ?_
      rintro e w6' ⟨rfl, rfl⟩
      by_cases hn1' : n = 1
      · have hm0 : m = 0 := HPN.out.2 hn1'
        subst hn1' hm0
        go_wp2_with fail
        go_ret
        exact ⟨rfl, f5⟩
      · have hm0 : ¬ m = 0 := fun h => hn1' (HPN.out.1 h)
        have t2 : ¬ (n : Int) = 1 := by omega
        have t3 : ¬ (m : Int) = 0 := by omega
        have t4 : (m : Int) ≤ (L : Int) := by omega
        have t5 : ((n : Int) == 1) = false := by simpa using t2
        have t6 : ((m : Int) == 0) = false := by simpa using t3
        go_wp2_with fail
        go_ret
        exact ⟨rfl, f5⟩
end Go.Proofs.Ytakebmpnbdlcoaa
