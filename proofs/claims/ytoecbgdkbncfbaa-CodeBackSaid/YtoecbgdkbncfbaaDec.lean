/- Plain law: how a number is read, seven bits a byte; reading is the way back of writing. -/
import Derived.Test.YtoecbgdkbncfbaaNum
namespace Go.Proofs.Ytoecbgdkbncfbaa

inductive NumRes where
  | ok (u : Nat) (rest : List UInt8)
  | cut
  | bad

/-- From the byte number k on, what was read so far: acc. -/
def dec (k acc : Nat) : List UInt8 → NumRes
  | [] => .cut
  | c :: l =>
    if (k = 9 ∧ 1 < c.toNat) ∨ (0 < k ∧ c.toNat = 0) then .bad
    else if c.toNat < 128 then .ok (acc + c.toNat % 128 * 128 ^ k) l
    else dec (k + 1) (acc + c.toNat % 128 * 128 ^ k) l

/-- The number with a sign. -/
def zag (u : Nat) : Int := if u % 2 = 1 then -((u / 2 : Nat) : Int) - 1 else ((u / 2 : Nat) : Int)

theorem zag_zig (n : Int) : zag (zig n) = n := by unfold zag zig; split <;> split <;> omega
theorem zig_zag (u : Nat) : zig (zag u) = u := by unfold zag zig; split <;> split <;> omega
theorem zag_lo {u : Nat} (h : u < 18446744073709551616) : -9223372036854775808 ≤ zag u := by unfold zag; split <;> omega
theorem zag_hi {u : Nat} (h : u < 18446744073709551616) : zag u < 9223372036854775808 := by unfold zag; split <;> omega

theorem dec_lt : ∀ (l : List UInt8) (k acc u : Nat) (r : List UInt8), k ≤ 9 → acc < 128 ^ k → dec k acc l = .ok u r → u < 18446744073709551616
  | [], k, acc, u, r, _, _, h => by cases h
  | c :: l, k, acc, u, r, hk, ha, h => by
    unfold dec at h
    split at h
    · cases h
    · rename_i hb
      have hp : 128 ^ (k + 1) = 128 ^ k * 128 := Nat.pow_succ 128 k
      have hc := Nat.mod_lt c.toNat (show 128 > 0 by decide)
      have hm : c.toNat % 128 * 128 ^ k ≤ 127 * 128 ^ k := Nat.mul_le_mul_right _ (by omega)
      split at h
      · injection h with h1 _
        subst h1
        by_cases h9 : k = 9
        · subst h9
          have h1 : c.toNat % 128 ≤ 1 := by omega
          have hm : c.toNat % 128 * 128 ^ 9 ≤ 1 * 128 ^ 9 := Nat.mul_le_mul_right _ h1
          have : (128 : Nat) ^ 9 = 9223372036854775808 := by decide
          omega
        · have : 128 ^ (k + 1) ≤ 128 ^ 9 := Nat.pow_le_pow_right (by decide) (by omega)
          have : (128 : Nat) ^ 9 = 9223372036854775808 := by decide
          omega
      · have h9 : k ≠ 9 := by omega
        exact dec_lt l (k + 1) _ u r (by omega) (by omega) h

/-- What was written is read as it was. -/
theorem dec_enc : ∀ (k u acc : Nat) (l : List UInt8), (0 < k → 0 < u) → u < 2 ^ (64 - 7 * k) → k ≤ 9 → dec k acc (enc u ++ l) = .ok (acc + u * 128 ^ k) l := by
  intro k
  induction h : 9 - k generalizing k with
  | zero =>
    intro u acc l h0 hu hk
    obtain rfl : k = 9 := by omega
    have hu2 : u < 2 := by simpa using hu
    rw [enc_lo (by omega)]
    simp only [List.cons_append, List.nil_append]
    unfold dec
    have e : (UInt8.ofNat u).toNat = u := by rw [UInt8.toNat_ofNat']; omega
    rw [e, if_neg (by omega), if_pos (by omega), Nat.mod_eq_of_lt (by omega)]
  | succ m ih =>
    intro u acc l h0 hu hk
    by_cases hlt : u < 128
    · rw [enc_lo hlt]
      simp only [List.cons_append, List.nil_append]
      unfold dec
      have e : (UInt8.ofNat u).toNat = u := by rw [UInt8.toNat_ofNat']; omega
      rw [e, if_neg (by omega), if_pos hlt, Nat.mod_eq_of_lt hlt]
    · rw [enc_hi hlt]
      simp only [List.cons_append]
      unfold dec
      have e : (UInt8.ofNat (u % 128 + 128)).toNat = u % 128 + 128 := by rw [UInt8.toNat_ofNat']; omega
      rw [e, if_neg (by omega), if_neg (by omega), ih (k + 1) (by omega) (u / 128) _ l (by omega) ?_ (by omega)]
      · congr 1
        have e2 : (u % 128 + 128) % 128 = u % 128 := by omega
        have hp : 128 ^ (k + 1) = 128 ^ k * 128 := Nat.pow_succ 128 k
        rw [e2, Nat.add_assoc, hp, Nat.mul_comm (128 ^ k) 128, ← Nat.mul_assoc, ← Nat.add_mul]
        congr 2
        omega
      · have hp : 2 ^ (64 - 7 * k) = 2 ^ (64 - 7 * (k + 1)) * 128 := by
          rw [show 64 - 7 * k = 64 - 7 * (k + 1) + 7 by omega, Nat.pow_add]
        omega
theorem dec_enc0 (u : Nat) (l : List UInt8) (h : u < 18446744073709551616) : dec 0 0 (enc u ++ l) = .ok u l := by
  have := dec_enc 0 u 0 l (by omega) (by simpa using h) (by omega)
  simpa using this

/-- What can be read is what is written. -/
theorem enc_dec : ∀ (l : List UInt8) (k acc u : Nat) (r : List UInt8), dec k acc l = .ok u r → acc < 128 ^ k →
    ∃ x, u = acc + x * 128 ^ k ∧ l = enc x ++ r ∧ (0 < k → 0 < x)
  | [], k, acc, u, r, h, _ => by cases h
  | c :: l, k, acc, u, r, h, ha => by
    unfold dec at h
    split at h
    · cases h
    · rename_i hb
      split at h
      · rename_i hlt
        injection h with h1 h2
        subst h1 h2
        refine ⟨c.toNat, by rw [Nat.mod_eq_of_lt hlt], ?_, by omega⟩
        rw [enc_lo hlt]
        simp
      · rename_i hge
        have hc := c.toNat_lt
        have hp : 128 ^ (k + 1) = 128 ^ k * 128 := Nat.pow_succ 128 k
        have hm : c.toNat % 128 * 128 ^ k ≤ 127 * 128 ^ k := Nat.mul_le_mul_right _ (by omega)
        obtain ⟨x, hu, hl, hx⟩ := enc_dec l (k + 1) _ u r h (by omega)
        refine ⟨c.toNat % 128 + x * 128, ?_, ?_, by have := hx (by omega); omega⟩
        · rw [hu, hp, Nat.add_assoc, Nat.add_mul, Nat.mul_comm (128 ^ k) 128, Nat.mul_assoc]
        · have hx0 := hx (by omega)
          rw [enc_hi (by omega), hl]
          have e1 : (c.toNat % 128 + x * 128) % 128 + 128 = c.toNat := by omega
          have e2 : (c.toNat % 128 + x * 128) / 128 = x := by omega
          rw [e1, e2]
          simp
theorem enc_dec0 {l : List UInt8} {u : Nat} {r : List UInt8} (h : dec 0 0 l = .ok u r) : l = enc u ++ r := by
  obtain ⟨x, hu, hl, _⟩ := enc_dec l 0 0 u r h (by decide)
  simp at hu
  rw [hu]
  exact hl
end Go.Proofs.Ytoecbgdkbncfbaa
