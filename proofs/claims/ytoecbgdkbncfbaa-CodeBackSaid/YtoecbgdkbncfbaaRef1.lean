/- Walks: capstanref1.Int, Text, Hash. -/
import Derived.Test.YtoecbgdkbncfbaaInt
namespace Go.Proofs.Ytoecbgdkbncfbaa
open Go.RowKit

/-- A call that hands back what it appended to (A, n, c). -/
def ROnto (w : World) (B : Nat) (e : TypeId) (size : Nat) (A : Option Addr) (n c : Nat) (xs xs' : List Value) (en : Ending) (w' : World) : Prop :=
  ∃ A' n' c', en = .returned (.slice A' n' c') ∧ Onto w w' B e size A n c xs A' n' c' xs'

theorem or_128b (x : Nat) : bits .or .u8 ((x : Int) % 256) 128 = ((UInt8.ofNat (x % 128 + 128)).toNat : Int) := by
  have hx : x % 256 < 256 := Nat.mod_lt _ (by decide)
  have e := u8_or_nat (x % 256) 128 hx (by omega)
  have e2 : ∀ y, y < 256 → y ||| 128 = y % 128 + 128 := by decide +kernel
  rw [e2 _ hx] at e
  rw [show ((x : Int) % 256) = ((x % 256 : Nat) : Int) by omega, show (128 : Int) = ((128 : Nat) : Int) from rfl, e, UInt8.toNat_ofNat']
  omega
theorem max_u64 : IntKind.u64.max = 18446744073709551615 := rfl
theorem xor_all (x : Nat) (h : x < 18446744073709551616) : 18446744073709551615 ^^^ x = 18446744073709551615 - x := by
  have e := congrArg BitVec.toNat (BitVec.allOnes_xor (x := BitVec.ofNat 64 x))
  rw [BitVec.toNat_xor, BitVec.toNat_not, BitVec.toNat_allOnes, BitVec.toNat_ofNat] at e
  simp only [Nat.reducePow, Nat.add_one_sub_one] at e
  rw [Nat.mod_eq_of_lt h] at e
  exact e
theorem zig_xor (n : Int) (ha : -9223372036854775808 ≤ n) (h0 : n < 0) : bits .xor .u64 IntKind.u64.max (IntKind.u64.wrap (IntKind.u64.wrap n * 2)) = (zig n : Int) := by
  have e1 : IntKind.u64.wrap (IntKind.u64.wrap n * 2) = ((18446744073709551616 + 2 * n).toNat : Int) := by
    rw [show ∀ m, IntKind.u64.wrap m = m % 18446744073709551616 from fun m => by simp [IntKind.wrap, IntKind.bits, IntKind.signed]]
    rw [show ∀ m, IntKind.u64.wrap m = m % 18446744073709551616 from fun m => by simp [IntKind.wrap, IntKind.bits, IntKind.signed]]
    omega
  rw [e1, max_u64]
  have e := u64_xor_nat 18446744073709551615 (18446744073709551616 + 2 * n).toNat (by omega) (by omega)
  rw [xor_all _ (by omega)] at e
  rw [show (18446744073709551615 : Int) = ((18446744073709551615 : Nat) : Int) from rfl, e]
  unfold zig
  rw [if_pos h0]
  omega

theorem refInt_any (A : Option Addr) (l c B : Nat) (bs : List UInt8) (n : Int) (w : World) (hO : Own w B 5 1 A l c (B8 bs)) (hB : B ≤ w.heap.size) (hl : l ≤ 1099511627776) (ha : -9223372036854775808 ≤ n) (ha2 : n < 9223372036854775808) :
    Calls Try.prog 15 #[.slice A l c, .int .i64 n] w (ROnto w B 5 1 A l c (B8 bs) (B8 (bs ++ enc (zig n)))) := by
  have hz := zig_lt ha ha2
  have hle := enc_le hz
  go_enter Try.func15, Try.ntmps15
  have key : ∀ x : Int, x = (zig n : Int) → Hid (x = (zig n : Int)) := fun _ h => h
  by_cases h0 : n < 0
  all_goals
    first
      | (have X := key _ (zig_xor n ha h0)
         go_wp2_with fail
         rw [X.out])
      | (have X : Hid (n * 2 = (zig n : Int)) := (show n * 2 = (zig n : Int) by unfold zig; rw [if_neg h0]; omega)
         go_wp2_with fail
         rw [X.out])
    clear key X
    go_loopw [0, 5] (fun s u wr => ∃ (A' : Option Addr) (n' c' : Nat) (pre : List UInt8) (k : Nat), s = .slice A' n' c' ∧ u = .int .u64 (k : Int) ∧ k < 18446744073709551616 ∧
        pre ++ enc k = bs ++ enc (zig n) ∧ Onto w wr B 5 1 A l c (B8 bs) A' n' c' (B8 pre)) (fun _ u _ => (intOf u).toNat)
    case atStart => exact ⟨A, l, c, bs, zig n, rfl, rfl, hz, rfl, Onto.refl hO⟩
    case round =>
      obtain ⟨A', n', c', pre, k, rfl, rfl, hk, he, ho⟩ := hrel
      have hsz := ho.grow.size
      have hn' := ho.own.len8
      have hl8 := hO.len8
      have hlen : n' + (enc k).length ≤ l + 10 := by
        have := congrArg List.length he
        simp only [List.length_append] at this
        rw [← hn', ← hl8] at this
        omega
      have hpos := enc_pos k
      have HE := Lib.hid he
      have HK := Lib.hid hk
      clear hn' hl8 he hk hz hle ha ha2
      by_cases hlt : k < 128
      · have h1 := enc_lo hlt
        rw [h1] at HE
        clear h1
        have t1 : ¬ (128 : Int) ≤ (k : Int) := by omega
        have y1 : (k : Int) = ((UInt8.ofNat k).toNat : Int) := by rw [UInt8.toNat_ofNat']; omega
        have Y1 := Lib.hid y1
        clear y1
        go_wp2_with (first
          | (at_builtin
             refine wpl_push8 _ _ _ elB rfl rfl rfl ho.own rfl (UInt8.ofNat k) Y1.out (by omega) (by omega) ?_
             intro A2 c2 w2 ho2 hb2 g2 _))
        go_ret
        have g3 := (ho.alloc _).step (by rw [B8_app] at g2; exact g2) (by omega)
        rw [← B8_app, HE.out] at g3
        exact ⟨A2, n' + 1, c2, rfl, g3⟩
      · have h1 := enc_hi hlt
        rw [h1] at HE
        clear h1
        have t1 : (128 : Int) ≤ (k : Int) := by omega
        have Y1 := Lib.hid (or_128b k)
        go_wp2_with (first
          | (at_builtin
             refine wpl_push8 _ _ _ elB rfl rfl rfl ho.own rfl (UInt8.ofNat (k % 128 + 128)) Y1.out (by omega) (by omega) ?_
             intro A2 c2 w2 ho2 hb2 g2 _))
        have g3 := (ho.alloc _).step (by rw [B8_app] at g2; exact g2) (by omega)
        rw [← B8_app] at g3
        go_roundw
        case rel => exact ⟨A2, _, c2, _, k / 128, rfl, by go_num, by have := HK.out; omega, by rw [← HE.out]; simp, g3⟩
        case measure => simp [intOf]; omega
theorem refText_any (w0 : World) (A : Option Addr) (l c B : Nat) (bs : List UInt8) (A2 : Option Addr) (m c2 : Nat) (ss : List UInt8) (w : World) (hO : Own w B 5 1 A l c (B8 bs)) (hS : Sl w0 1 A2 m (B8 ss)) (hW : Below w0.heap.size w0 w) (hB0 : w0.heap.size ≤ B) (hB : B ≤ w.heap.size)
    (hl : l ≤ 1099511627776) (hm : m ≤ 1099511627776) :
    Calls Try.prog 17 #[.slice A l c, .slice A2 m c2] w (ROnto w B 5 1 A l c (B8 bs) (B8 (bs ++ enc (zig m) ++ ss))) := by
  go_enter Try.func17, Try.ntmps17
  go_wp2_with fail
  refine (refInt_any A l c B bs m w hO hB hl (by omega) (by omega)).mono ?_
  rintro e w1 ⟨A1, n1, c1, rfl, ho1⟩
  have l1 := ho1.own.len8
  rw [List.length_append, ← hO.len8] at l1
  have l2 := enc_le (zig_lt (n := (m : Int)) (by omega) (by omega))
  have l3 : n1 ≤ l + 10 := by omega
  have hS1 : Sl w1 1 A2 m (B8 ss) := hS.to (hW.trans ((ho1.bel hB).mono hB0))
  have hsz := ho1.grow.size
  clear l1 l2
  go_wp2_with (first
    | (at_builtin
       refine wpl_app _ _ _ _ elB rfl rfl rfl ho1.own rfl hS1 (B8_one _) (by omega) (by omega) (by omega) ?_
       intro A2 c2 w2 g))
  go_ret
  have g3 := ho1.step g (by omega)
  rw [← B8_app] at g3
  exact ⟨_, _, _, rfl, g3⟩
theorem refHash_any (A : Option Addr) (l c B : Nat) (bs h : List UInt8) (w : World) (hO : Own w B 5 1 A l c (B8 bs)) (hB : B ≤ w.heap.size) (hl : l ≤ 1099511627776) (hh : h.length = 32) :
    Calls Try.prog 19 #[.slice A l c, hv h] w (ROnto w B 5 1 A l c (B8 bs) (B8 (bs ++ h))) := by
  unfold hv
  go_enter Try.func19, Try.ntmps19
  go_wp2_with (first
    | (at_builtin
       refine wpl_push _ _ _ elB rfl rfl rfl hO rfl (by simp [B8_len, hh]) (by intro u hu; exact B8_one h u (by simpa using hu)) (by omega) (by omega) (by omega) ?_
       intro A2 c2 w2 g _ _))
  go_ret
  have g3 := ((Onto.refl hO).alloc _).step g (by omega)
  rw [← B8_app] at g3
  exact ⟨_, _, _, rfl, g3⟩
end Go.Proofs.Ytoecbgdkbncfbaa
