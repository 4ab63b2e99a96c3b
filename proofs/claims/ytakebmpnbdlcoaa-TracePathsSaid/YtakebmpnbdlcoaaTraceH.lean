/- Walks: where a row of sums is split (trace.half, and the document's). -/
import Derived.Test.YtakebmpnbdlcoaaTraceP
import Derived.Test.YtakebmpnbdlcoaaProg
import Derived.IntWalk
set_option linter.unusedSimpArgs false
set_option linter.unusedVariables false
namespace Go.Proofs.Ytakebmpnbdlcoaa
open Go.RowKit
set_option maxRecDepth 100000
set_option maxRecDepth 100000 in
set_option maxHeartbeats 1000000 in
theorem refSplit_any (n : Nat) (w : World) (h2 : 2 ≤ n) (hn : n ≤ 1073741824) :
    Calls Try.prog 55 #[.int .i64 (n : Int)] w fun e w' => e = .returned (.int .i64 (splitN n : Nat)) ∧ w = w' := by
  go_enter Try.func55, Try.ntmps55
  go_wp2_with fail
  go_loop [3] (fun k => ∃ j K : Nat, Hid (K = 2 ^ j) ∧ K < n ∧ k = .int .i64 (K : Int)) (fun k => n - (intOf k).toNat)
  case atStart => exact ⟨0, 1, rfl, by omega, rfl⟩
  case round =>
    obtain ⟨j, K, hK, hlt, rfl⟩ := hrel
    have hK1 : 1 ≤ K := by rw [hK.out]; exact Nat.one_le_two_pow
    by_cases hc : 2 * K < n
    · have t1 : 2 * (K : Int) < (n : Int) := by omega
      have hp : Hid (2 * K = 2 ^ (j + 1)) := (show _ = _ by rw [hK.out, Nat.pow_succ]; omega)
      go_wp2_with fail
      go_round
      case rel => exact ⟨j + 1, 2 * K, hp, by omega, by go_num⟩
      case measure => simp [intOf]; omega
    · have t1 : ¬ 2 * (K : Int) < (n : Int) := by omega
      have hs : Hid (splitN n = K) := (show _ = _ by rw [split_of (n := n) (j := j) (by rw [← hK.out]; exact hlt) (by rw [Nat.pow_succ, ← hK.out]; omega), hK.out])
      go_wp2_with fail
      go_ret
      exact ⟨by rw [hs.out]; rfl, rfl⟩
set_option maxRecDepth 100000 in
set_option maxHeartbeats 1000000 in
theorem half_any (n : Nat) (w : World) (h2 : 2 ≤ n) (hn : n ≤ 1073741824) :
    Calls Try.prog 51 #[.int .i64 (n : Int)] w fun e w' => e = .returned (.int .i64 (splitN n : Nat)) ∧ w = w' := by
  go_enter Try.func51, Try.ntmps51
  go_wp2_with fail
  go_loop [3, 4] (fun k i => ∃ j K : Nat, Hid (K = 2 ^ j) ∧ j ≤ 31 ∧ K < n ∧ k = .int .i64 (K : Int) ∧ i = .int .i64 (j : Int)) (fun k _ => n - (intOf k).toNat)
  case atStart => exact ⟨0, 1, rfl, by omega, by omega, rfl, rfl⟩
  case round =>
    obtain ⟨j, K, hK, hj, hlt, rfl, rfl⟩ := hrel
    have hK1 : 1 ≤ K := by rw [hK.out]; exact Nat.one_le_two_pow
    have hj30 : j ≤ 30 := by
      rcases Nat.lt_or_ge 30 j with h | h
      · have := Nat.pow_le_pow_right (show 0 < 2 by decide) h
        rw [← hK.out] at this
        omega
      · exact h
    have t0 : (j : Int) < 62 := by omega
    by_cases hc : 2 * K < n
    · have t1 : ¬ (n : Int) ≤ (K : Int) * 2 := by omega
      have hp : Hid (2 * K = 2 ^ (j + 1)) := (show _ = _ by rw [hK.out, Nat.pow_succ]; omega)
      go_wp2_with fail
      go_round
      case rel => exact ⟨j + 1, 2 * K, hp, by omega, by omega, by go_num, by go_num⟩
      case measure => simp [intOf]; omega
    · have t1 : (n : Int) ≤ (K : Int) * 2 := by omega
      have hs : Hid (splitN n = K) := (show _ = _ by rw [split_of (n := n) (j := j) (by rw [← hK.out]; exact hlt) (by rw [Nat.pow_succ, ← hK.out]; omega), hK.out])
      go_wp2_with fail
      go_ret
      exact ⟨by rw [hs.out]; rfl, rfl⟩
end Go.Proofs.Ytakebmpnbdlcoaa
