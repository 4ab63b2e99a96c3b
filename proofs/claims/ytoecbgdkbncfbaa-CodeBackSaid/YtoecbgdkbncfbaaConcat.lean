/- Walks: code.Text, code.Hash. -/
import Derived.Test.YtoecbgdkbncfbaaRef1
import Derived.Test.YtoecbgdkbncfbaaCat
namespace Go.Proofs.Ytoecbgdkbncfbaa
open Go.RowKit
theorem text_any (A : Option Addr) (l c : Nat) (bs : List UInt8) (A2 : Option Addr) (m c2 : Nat) (ss : List UInt8) (w : World) (h : Sl w 1 A l (B8 bs)) (hS : Sl w 1 A2 m (B8 ss)) (hl : l ≤ 100000000000) (hm : m ≤ 100000000000) :
    Calls Try.prog 16 #[.slice A l c, .slice A2 m c2] w (RSl w 5 1 (B8 (bs ++ enc (zig m) ++ ss))) := by
  go_enter Try.func16, Try.ntmps16
  go_wp2_with fail
  refine (int_any A l c bs m w h (by omega) (by omega) (by omega)).mono ?_
  rintro e w1 ⟨A1, n1, c1, rfl, ho1, hb1⟩
  have l1 := ho1.len8
  rw [List.length_append, ← h.len8] at l1
  have l2 := enc_le (zig_lt (n := (m : Int)) (by omega) (by omega))
  have l3 : n1 ≤ l + 10 := by omega
  clear l1 l2
  go_wp2_with fail
  refine (concat2_B A1 A2 n1 m c1 c2 _ _ _ _ w1 ho1.sl (hS.to hb1) (by omega) _ rfl).mono ?_
  rintro e w2 ⟨A3, n3, c3, rfl, ho3, hb3⟩
  go_wp2
  go_ret
  exact RSl.mk (ho3.mono hb1.size) (hb1.trans (hb3.mono hb1.size))
theorem hash_any (A : Option Addr) (l c : Nat) (bs h : List UInt8) (w : World) (hS : Sl w 1 A l (B8 bs)) (hl : l ≤ 100000000000) (hh : h.length = 32) :
    Calls Try.prog 18 #[.slice A l c, hv h] w (RSl w 5 1 (B8 (bs ++ h))) := by
  unfold hv
  go_enter Try.func18, Try.ntmps18
  go_wp2_with fail
  have s2 := Sl.new (size := 1) w (B8 h).toArray 29 (0, 0) 32 (by simp [B8_len, hh])
  refine (concat2_B A (some ⟨w.heap.size, 0, none⟩) l 32 c 32 _ h _ _ (w.alloc (.cells (B8 h).toArray 29)) (hS.alloc _) s2 (by omega) (w.heap.size + 1) (by simp)).mono ?_
  rintro e w2 ⟨A3, n3, c3, rfl, ho3, hb3⟩
  go_wp2
  go_ret
  exact RSl.mk (ho3.mono (by simp)) (((Below.refl _ _).alloc (Nat.le_refl _) _).trans (hb3.mono (by simp)))
end Go.Proofs.Ytoecbgdkbncfbaa
