/- Walks: code.turned, code.Int, capstanlaw1.within. -/
import Derived.Test.YtoecbgdkbncfbaaClone
import Derived.Test.YtoecbgdkbncfbaaNum
namespace Go.Proofs.Ytoecbgdkbncfbaa
open Go.RowKit

theorem within_any (a n : Int) (w : World) (hn : 0 < n) (hn2 : n < 1000) (ha : -9223372036854775808 ≤ a) (ha2 : a < 9223372036854775808) :
    Calls Try.prog 13 #[.int .i64 a, .int .i64 n] w fun e w' => e = .returned (.int .i64 (a % n)) ∧ w = w' := by
  have e1 : a % n = if a.tmod n < 0 then a.tmod n + n else a.tmod n := by
    rw [Int.tmod_eq_emod]
    have := Int.emod_nonneg a (show n ≠ 0 by omega)
    have := Int.emod_lt_of_pos a hn
    have hnn : (n.natAbs : Int) = n := by omega
    split <;> split <;> omega
  have b1 : -n < a.tmod n := by have := Int.lt_tmod_of_pos a hn; omega
  have b2 : a.tmod n < n := Int.tmod_lt_of_pos a hn
  have H := Lib.hid e1
  clear e1
  by_cases h : a.tmod n < 0
  · go_enter Try.func13, Try.ntmps13
    go_wp2
    go_ret
    exact ⟨ret_int (by rw [H.out, if_pos h]), rfl⟩
  · go_enter Try.func13, Try.ntmps13
    go_wp2
    go_ret
    exact ⟨ret_int (by rw [H.out, if_neg (Int.not_lt.2 h)]), rfl⟩

theorem or_one (x : Nat) (h : 2 * x + 1 < 18446744073709551616) : bits .or .u64 ((x : Int) * 2) 1 = ((2 * x + 1 : Nat) : Int) := by
  have e := u64_or_nat (2 * x) 1 (by omega) (by omega)
  rw [nat_join 1 (2 * x) 1 (by omega) (by omega)] at e
  rw [← e]
  congr 1
  omega
theorem turned_any (n : Int) (w : World) (ha : -9223372036854775808 ≤ n) (ha2 : n < 9223372036854775808) :
    Calls Try.prog 33 #[.int .i64 n] w fun e w' => e = .returned (.int .u64 (zig n : Int)) ∧ w = w' := by
  by_cases h : n < 0
  · go_enter Try.func33, Try.ntmps33
    go_wp2
    go_ret
    refine ⟨ret_int ?_, rfl⟩
    have e := or_one (-(n + 1)).toNat (by omega)
    rw [show (((-(n + 1)).toNat : Nat) : Int) = -(n + 1) by omega] at e
    rw [show -(n + 1) * 2 = (-(n + 1)) * 2 from rfl, e]
    unfold zig
    rw [if_pos h]
    omega
  · go_enter Try.func33, Try.ntmps33
    go_wp2
    go_ret
    exact ⟨ret_int (by unfold zig; rw [if_neg (Int.not_lt.2 h)]; omega), rfl⟩

theorem or_128 (x : Nat) (h : x < 128) : bits .or .u8 (x : Int) 128 = ((x + 128 : Nat) : Int) := by
  have e := u8_or_nat x 128 (by omega) (by omega)
  rw [Nat.or_comm, nat_join 7 128 x (by omega) (by omega)] at e
  rw [show ((128 : Nat) : Int) = 128 from rfl] at e
  rw [e]
  omega

theorem int_any (A : Option Addr) (l c : Nat) (bs : List UInt8) (n : Int) (w : World) (h : Sl w 1 A l (B8 bs)) (hl : l ≤ 1099511627776) (ha : -9223372036854775808 ≤ n) (ha2 : n < 9223372036854775808) :
    Calls Try.prog 14 #[.slice A l c, .int .i64 n] w (RSl w 5 1 (B8 (bs ++ enc (zig n)))) := by
  have hz := zig_lt ha ha2
  have hle := enc_le hz
  go_enter Try.func14, Try.ntmps14
  go_wp2_with fail
  refine (clone_B A _ c _ _ h (B8_one _) (by omega)).mono ?_
  rintro e w1 ⟨A1, n1, c1, rfl, ho1, hb1⟩
  go_wp2_with fail
  refine (turned_any n w1 ha ha2).mono ?_
  rintro e w' ⟨rfl, rfl⟩
  go_wp2_with fail
  go_loopw [5, 6] (fun s u wr => ∃ (A' : Option Addr) (n' c' : Nat) (pre : List UInt8) (k : Nat), s = .slice A' n' c' ∧ u = .int .u64 (k : Int) ∧ k < 18446744073709551616 ∧
      pre ++ enc k = bs ++ enc (zig n) ∧ Own wr w.heap.size 5 1 A' n' c' (B8 pre) ∧ Below w.heap.size w wr) (fun _ u _ => (intOf u).toNat)
  case atStart => exact ⟨A1, n1, c1, bs, zig n, rfl, rfl, hz, rfl, ho1, hb1⟩
  case round =>
    obtain ⟨A', n', c', pre, k, rfl, rfl, hk, he, ho, hb⟩ := hrel
    have hsz := hb.size
    have hn' := ho.len8
    have hl8 := h.len8
    have hlen : n' + (enc k).length ≤ l + 10 := by
      have := congrArg List.length he
      simp only [List.length_append] at this
      rw [← hn', ← hl8] at this
      omega
    have hpos := enc_pos k
    have HE := Lib.hid he
    have HK := Lib.hid hk
    clear hn' hl8 he hk hz hle ha ha2
    have hNat := Int.toNat_natCast k
    by_cases hlt : k < 128
    · have h1 := enc_lo hlt
      rw [h1] at HE
      clear h1
      have t1 : ¬ (128 : Int) ≤ (k : Int) := by omega
      have y1 : (k : Int) = ((UInt8.ofNat k).toNat : Int) := by rw [UInt8.toNat_ofNat']; omega
      have Y1 := Lib.hid y1
      clear y1
      go_wp2_with (first
        | (at_builtin
           refine wpl_push8 _ _ _ elB rfl rfl rfl ho rfl (UInt8.ofNat k) Y1.out (by omega) (by omega) ?_
           intro A2 c2 w2 ho2 hb2 _ _))
      have hb3 := hb.trans hb2
      refine (clone_B A2 _ c2 _ _ ho2.sl (B8_one _) (by omega)).mono ?_
      rintro e w3 ⟨A3, n3, c3, rfl, ho3, hb4⟩
      go_wp2
      go_ret
      rw [← HE.out]
      exact RSl.mk (ho3.mono hb3.size) (hb3.trans (hb4.mono hb3.size))
    · have h1 := enc_hi hlt
      rw [h1] at HE
      clear h1
      have t1 : (128 : Int) ≤ (k : Int) := by omega
      have y1 : bits .or .u8 ((k : Int) % 128) 128 = ((UInt8.ofNat (k % 128 + 128)).toNat : Int) := by
        have := or_128 (k % 128) (by omega)
        rw [show ((k % 128 : Nat) : Int) = (k : Int) % 128 by omega] at this
        rw [this, UInt8.toNat_ofNat']
        omega
      have Y1 := Lib.hid y1
      clear y1
      go_wp2_with (first
        | (at_builtin
           refine wpl_push8 _ _ _ elB rfl rfl rfl ho rfl (UInt8.ofNat (k % 128 + 128)) Y1.out (by omega) (by omega) ?_
           intro A2 c2 w2 ho2 hb2 _ _))
      go_roundw
      case rel => exact ⟨A2, _, c2, _, k / 128, rfl, by go_num, by have := HK.out; omega, by rw [← HE.out]; simp, ho2, hb.trans hb2⟩
      case measure => simp [intOf]; omega
theorem known_any (w : World) : Calls Try.prog 12 #[] w (RB true w) := by
  go_enter Try.func12, Try.ntmps12
  go_wp2_with fail
  refine (int_any none 0 0 [] (-1) w Sl.nil_ (by omega) (by omega) (by omega)).mono ?_
  rintro e w1 ⟨A1, n1, c1, rfl, ho1, hb1⟩
  go_wp2_with fail
  refine (int_any none 0 0 [] 64 w1 Sl.nil_ (by omega) (by omega) (by omega)).mono ?_
  rintro e w2 ⟨A2, n2, c2, rfl, ho2, hb2⟩
  have e1 : [] ++ enc (zig (-1)) = [1] := by rw [show zig (-1) = 1 from rfl, enc_lo (by decide)]; rfl
  have e2 : [] ++ enc (zig 64) = [128, 1] := by rw [show zig 64 = 128 from rfl, enc_hi (by decide), enc_lo (by decide)]; rfl
  rw [e1] at ho1
  rw [e2] at ho2
  clear e1 e2
  obtain rfl : n1 = 1 := ho1.len8
  obtain rfl : n2 = 2 := ho2.len8
  obtain ⟨b1, rfl, _, _, hc1⟩ := (ho1.to hb2).at8 (by decide)
  obtain ⟨b2, rfl, _, _, hc2⟩ := ho2.at8 (by decide)
  have f1 := hc1 0 1 rfl
  have f2 := hc2 0 128 rfl
  have f3 := hc2 1 1 rfl
  simp only [UInt8.reduceToNat, Int.cast_ofNat_Int] at f1 f2 f3
  clear hc1 hc2
  go_wp2
  go_ret
  exact ⟨rfl, hb1.trans (hb2.mono hb1.size)⟩
end Go.Proofs.Ytoecbgdkbncfbaa
