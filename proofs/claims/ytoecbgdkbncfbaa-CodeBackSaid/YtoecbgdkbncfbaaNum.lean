/- Plain law: how a number is written, seven bits a byte. -/
import Derived.Test.YtoecbgdkbncfbaaLib
namespace Go.Proofs.Ytoecbgdkbncfbaa

def enc (u : Nat) : List UInt8 := if u < 128 then [UInt8.ofNat u] else UInt8.ofNat (u % 128 + 128) :: enc (u / 128)
termination_by u
decreasing_by omega

theorem enc_lo {u : Nat} (h : u < 128) : enc u = [UInt8.ofNat u] := by rw [enc, if_pos h]
theorem enc_hi {u : Nat} (h : ¬ u < 128) : enc u = UInt8.ofNat (u % 128 + 128) :: enc (u / 128) := by rw [enc, if_neg h]

/-- A number without a sign, the sign as its last bit. -/
def zig (n : Int) : Nat := if n < 0 then (-2 * n - 1).toNat else (2 * n).toNat

theorem zig_lt {n : Int} (h1 : -9223372036854775808 ≤ n) (h2 : n < 9223372036854775808) : zig n < 18446744073709551616 := by
  unfold zig; split <;> omega

theorem enc_len : ∀ (k u : Nat), u < 128 ^ (k + 1) → (enc u).length ≤ k + 1
  | 0, u, h => by rw [enc_lo (by simpa using h)]; simp
  | k + 1, u, h => by
    by_cases h1 : u < 128
    · rw [enc_lo h1]; simp
    · rw [enc_hi h1, List.length_cons]
      have := enc_len k (u / 128) (Nat.div_lt_of_lt_mul (by rw [Nat.pow_succ] at h; omega))
      omega
theorem enc_le {u : Nat} (h : u < 18446744073709551616) : (enc u).length ≤ 10 := enc_len 9 u (Nat.lt_of_lt_of_le h (by decide))
theorem enc_pos (u : Nat) : 1 ≤ (enc u).length := by
  by_cases h : u < 128
  · rw [enc_lo h]; simp
  · rw [enc_hi h]; simp
theorem enc_length : ∀ (j u : Nat), (j = 0 ∨ 128 ^ j ≤ u) → u < 128 ^ (j + 1) → (enc u).length = j + 1
  | 0, u, _, h => by rw [enc_lo (by simpa using h)]; simp
  | j + 1, u, h, h2 => by
    have h : 128 ^ (j + 1) ≤ u := h.resolve_left (by omega)
    have hp : 0 < 128 ^ j := Nat.pow_pos (by decide)
    have h128 : ¬ u < 128 := by rw [Nat.pow_succ] at h; omega
    rw [enc_hi h128, List.length_cons, enc_length j (u / 128) ?_ (Nat.div_lt_of_lt_mul (by rw [Nat.pow_succ] at h2; omega))]
    right
    rw [Nat.le_div_iff_mul_le (by decide)]
    rwa [Nat.pow_succ] at h
theorem pow128 (j : Nat) : 128 ^ j = 2 ^ (7 * j) := by rw [Nat.pow_mul]
theorem enc_two (k : Nat) : (enc (zig ((2 ^ k : Nat) : Int))).length = (k + 8) / 7 := by
  have hz : zig ((2 ^ k : Nat) : Int) = 2 ^ (k + 1) := by unfold zig; rw [if_neg (by have := Int.natCast_nonneg (2 ^ k); omega)]; rw [Nat.pow_succ]; omega
  rw [hz, enc_length ((k + 1) / 7) (2 ^ (k + 1)) (by right; rw [pow128]; exact Nat.pow_le_pow_right (by decide) (by omega)) (by rw [pow128]; exact Nat.pow_lt_pow_right (by decide) (by omega))]
  omega
theorem enc_neg_two (k : Nat) : (enc (zig (-((2 ^ k : Nat) : Int)))).length = (k + 7) / 7 := by
  have hp : 1 ≤ 2 ^ k := Nat.one_le_two_pow
  have hz : zig (-((2 ^ k : Nat) : Int)) = 2 ^ (k + 1) - 1 := by unfold zig; rw [if_pos (by omega), Nat.pow_succ]; omega
  have h1 : 2 ^ (7 * (k / 7)) ≤ 2 ^ k := Nat.pow_le_pow_right (by decide) (by omega)
  have h2 : 2 ^ (k + 1) ≤ 2 ^ (7 * (k / 7 + 1)) := Nat.pow_le_pow_right (by decide) (by omega)
  have h3 : 2 ^ (k + 1) = 2 ^ k * 2 := Nat.pow_succ 2 k
  rw [hz, enc_length (k / 7) (2 ^ (k + 1) - 1) (by right; rw [pow128]; omega) (by rw [pow128]; omega)]
  omega
end Go.Proofs.Ytoecbgdkbncfbaa
