/- The walk of capstanlaw1.CodeShort. -/
import Derived.Test.YtoecbgdkbncfbaaInt
namespace Go.Proofs.Ytoecbgdkbncfbaa
open Go.RowKit
theorem codeShort_walk (w : World) (n : Int) (n_lo : -9223372036854775808 ≤ n) (n_hi : n < 9223372036854775808) (k : Int) (k_lo : -9223372036854775808 ≤ k) (k_hi : k < 9223372036854775808) :
    Calls Try.prog 3 #[.int .i64 n, .int .i64 k] w (RB true w) := by
  obtain ⟨j, hj⟩ : ∃ j : Nat, k % 63 = (j : Int) := ⟨(k % 63).toNat, by omega⟩
  have hj63 : j < 63 := by omega
  have HJ := Lib.hid hj
  clear hj
  go_enter Try.func3, Try.ntmps3
  go_wp2_with fail
  refine (known_any w).mono ?_
  rintro e w1 ⟨rfl, hb1⟩
  go_wp2_with fail
  refine (within_any k 63 w1 (by omega) (by omega) k_lo k_hi).mono ?_
  rintro e w' ⟨rfl, rfl⟩
  rw [HJ.out]
  have hp : ((2 ^ j : Nat) : Int) ≤ 4611686018427387904 := by
    have : 2 ^ j ≤ 2 ^ 62 := Nat.pow_le_pow_right (by decide) (by omega)
    omega
  have hp0 : 0 ≤ ((2 ^ j : Nat) : Int) := Int.natCast_nonneg _
  have E1 : Hid (wrap64 ((2 : Int) ^ j) = ((2 ^ j : Nat) : Int)) := by
    rw [show ((2 : Int) ^ j) = ((2 ^ j : Nat) : Int) by simp]
    exact IntWalk.wrap64_in _ (by omega)
  go_wp2_with fail
  rw [E1.out]
  refine (int_any none 0 0 [] _ w1 Sl.nil_ (by omega) (by omega) (by omega)).mono ?_
  rintro e w2 ⟨A2, n2, c2, rfl, ho2, hb2⟩
  have l2 := ho2.len8
  rw [List.nil_append, enc_two] at l2
  have L2 := Lib.hid l2
  clear l2
  go_wp2_with fail
  rw [E1.out, IntWalk.wrap64_in _ (by omega)]
  refine (int_any none 0 0 [] _ w2 Sl.nil_ (by omega) (by omega) (by omega)).mono ?_
  rintro e w3 ⟨A3, n3, c3, rfl, ho3, hb3⟩
  have l3 := ho3.len8
  rw [List.nil_append, enc_neg_two] at l3
  have L3 := Lib.hid l3
  clear l3
  go_wp2_with fail
  refine (int_any none 0 0 [] n w3 Sl.nil_ (by omega) (by omega) (by omega)).mono ?_
  rintro e w4 ⟨A4, n4, c4, rfl, ho4, hb4⟩
  have l4 := ho4.len8
  have l4a := enc_le (zig_lt n_lo n_hi)
  have l4b := enc_pos (zig n)
  rw [List.nil_append] at l4
  have t4 : (1 : Int) ≤ (n4 : Int) := by omega
  have t5 : (n4 : Int) ≤ 10 := by omega
  have hb := hb1.trans ((hb2.trans ((hb3.trans (hb4.mono hb3.size)).mono hb2.size)).mono hb1.size)
  obtain rfl := L2.out
  obtain rfl := L3.out
  clear l4 l4a l4b ho2 ho3 ho4 hb2 hb3 hb4 hb1 E1 hp hp0 HJ L2 L3
  go_wp2_with fail
  go_ret
  exact ⟨rfl, hb⟩
end Go.Proofs.Ytoecbgdkbncfbaa
