/- Walks: bits.RotateLeft32, sha.right, capstanref2.rot. -/
import Derived.Test.YtakebmpnbdlcoaaShaSpec
import Derived.Test.YtakebmpnbdlcoaaClone
set_option linter.unusedSimpArgs false
set_option linter.unusedVariables false
namespace Go.Proofs.Ytakebmpnbdlcoaa
open Go.RowKit
set_option maxRecDepth 100000
theorem rot_lt {x n : Nat} (hx : x < 4294967296) : rotr n x < 4294967296 := by
  unfold rotr
  exact Nat.or_lt_two_pow (n := 32) (Nat.lt_of_le_of_lt (Nat.div_le_self _ _) hx) (Nat.mod_lt _ (by decide))
theorem rot_bits (x n : Nat) (hx : x < 4294967296) : bits .or .u32 ((x : Int) / 2 ^ n) ((x : Int) * 2 ^ (32 - n) % 4294967296) = ((rotr n x : Nat) : Int) := by
  have e := u32_or_nat (x / 2 ^ n) (x * 2 ^ (32 - n) % 4294967296) (Nat.lt_of_le_of_lt (Nat.div_le_self _ _) hx) (Nat.mod_lt _ (by decide))
  unfold rotr
  rw [← e]
  simp [Int.natCast_ediv, Int.natCast_pow]
theorem rot_bits' (x n m : Nat) (hx : x < 4294967296) (h : m + n = 32) : bits .or .u32 ((x : Int) * 2 ^ m % 4294967296) ((x : Int) / 2 ^ n) = ((rotr n x : Nat) : Int) := by
  have e := u32_or_nat (x * 2 ^ (32 - n) % 4294967296) (x / 2 ^ n) (Nat.mod_lt _ (by decide)) (Nat.lt_of_le_of_lt (Nat.div_le_self _ _) hx)
  obtain rfl : m = 32 - n := by omega
  unfold rotr
  rw [Nat.or_comm, ← e]
  simp [Int.natCast_ediv, Int.natCast_pow]
theorem neg_and (n m : Nat) (h1 : 1 ≤ n) (h : m + n = 32) : bits .and .u64 (IntKind.u64.wrap (-(n : Int))) 31 = (m : Int) := by
  have e1 : IntKind.u64.wrap (-(n : Int)) = ((18446744073709551616 - n : Nat) : Int) := by
    rw [show ∀ m, IntKind.u64.wrap m = m % 18446744073709551616 from fun m => by simp [IntKind.wrap, IntKind.bits, IntKind.signed]]
    omega
  rw [e1, show (31 : Int) = ((31 : Nat) : Int) from rfl, u64_and_nat _ 31 (by omega) (by omega)]
  have e2 := Nat.and_two_pow_sub_one_eq_mod (18446744073709551616 - n) 5
  simp only [Nat.reducePow, Nat.reduceSub] at e2
  rw [e2]
  omega
theorem rotl_any (x n : Nat) (w : World) (hx : x < 4294967296) (h1 : 1 ≤ n) (h2 : n < 32) :
    Calls Try.prog 70 #[.int .u32 x, .int .i64 (-(n : Int))] w fun e w' => e = .returned (.int .u32 ((rotr n x : Nat) : Int)) ∧ w = w' := by
  obtain ⟨m, hm⟩ : ∃ m, m + n = 32 := ⟨32 - n, by omega⟩
  have na := neg_and n m h1 hm
  have X := Lib.hid (rot_bits' x n m hx hm)
  have q : (32 - (m : Int)) = (n : Int) := by omega
  have q2 : m < 32 := by omega
  have HM := Lib.hid hm
  clear hm
  go_enter Try.func70, Try.ntmps70
  go_wp2_with fail
  go_ret
  exact ⟨ret_int X.out, rfl⟩
theorem right_any (x n : Nat) (w : World) (hx : x < 4294967296) (h1 : 1 ≤ n) (h2 : n < 32) :
    Calls Try.prog 68 #[.int .u32 x, .int .i64 n] w fun e w' => e = .returned (.int .u32 ((rotr n x : Nat) : Int)) ∧ w = w' := by
  go_enter Try.func68, Try.ntmps68
  go_wp2_with fail
  refine (rotl_any x n w hx h1 h2).mono ?_
  rintro e w' ⟨rfl, rfl⟩
  go_wp2
  go_ret
  exact ⟨rfl, rfl⟩
theorem rot_any (x n : Nat) (w : World) (hx : x < 4294967296) (h1 : 1 ≤ n) (h2 : n < 32) :
    Calls Try.prog 64 #[.int .u32 x, .int .u64 n] w fun e w' => e = .returned (.int .u32 ((rotr n x : Nat) : Int)) ∧ w = w' := by
  go_enter Try.func64, Try.ntmps64
  go_wp2_with fail
  go_ret
  exact ⟨ret_int (rot_bits x n hx), rfl⟩
end Go.Proofs.Ytakebmpnbdlcoaa
