/- The walks of capstanlaw16's within and known. -/
import Derived.Test.YtaaiembhdfgkjaaGameX
import Derived.Test.YtaaiembhdfgkjaaHashes
namespace Go.Proofs.Ytaaiembhdfgkjaa
open Go.RowKit
theorem within_capstanlaw16 (a n : Int) (w : World) (hn : 0 < n) (hn2 : n < 1099511627776) (ha : -9223372036854775808 ≤ a) (ha2 : a < 9223372036854775808) :
    Calls Try.prog 24 #[.int .i64 a, .int .i64 n] w fun e w' => e = .returned (.int .i64 (a % n)) ∧ w = w' := by
  have e1 : a % n = if a.tmod n < 0 then a.tmod n + n else a.tmod n := by
    rw [Int.tmod_eq_emod]
    have := Int.emod_nonneg a (show n ≠ 0 by omega)
    have := Int.emod_lt_of_pos a hn
    have hnn : (n.natAbs : Int) = n := by omega
    split <;> split <;> omega
  have b1 : -n < a.tmod n := by have := Int.lt_tmod_of_pos a hn; omega
  have b2 : a.tmod n < n := Int.tmod_lt_of_pos a hn
  have H := Lib.hid e1
  clear e1
  by_cases h : a.tmod n < 0
  · go_enter Try.func24, Try.ntmps24
    go_wp2
    go_ret
    exact ⟨ret_int (by rw [H.out, if_pos h]), rfl⟩
  · go_enter Try.func24, Try.ntmps24
    go_wp2
    go_ret
    exact ⟨ret_int (by rw [H.out, if_neg (Int.not_lt.2 h)]), rfl⟩
/-- a sum of one byte, and noughts -/
def one_ (x : UInt8) : List UInt8 := x :: List.replicate 31 0
theorem one_len (x : UInt8) : (one_ x).length = 32 := by simp [one_]
theorem built_one1 : Try.prog.built 26 [(0, .int .u8 1)] = some (B8 (one_ 1)).toArray := by kernel_rfl
theorem built_one2 : Try.prog.built 26 [(0, .int .u8 2)] = some (B8 (one_ 2)).toArray := by kernel_rfl
theorem built_one3 : Try.prog.built 26 [(0, .int .u8 3)] = some (B8 (one_ 3)).toArray := by kernel_rfl
set_option maxRecDepth 100000 in
set_option maxHeartbeats 1000000 in
theorem gameKnown_any (w : World) : Calls Try.prog 23 #[] w (RB true w) := by
  have hbl : (B8 (one_ 1)).length = 32 := rfl
  go_enter Try.func23, Try.ntmps23
  go_wp2_with (first
    | (refine wpl_build (by rfl) _ _ rfl _ built_one1 ?_)
    | (refine wpl_build (by rfl) _ _ rfl _ built_one2 ?_)
    | (refine wpl_build (by rfl) _ _ rfl _ built_one3 ?_))
  rw [fold_sum' (one_ 1) rfl]
  have s1 : Sl (w.alloc (.cells (B8 (one_ 1)).toArray 26)) 32 (some ⟨w.heap.size, 0, none⟩) 1 (H8 [one_ 1]) := by
    have := Sl.new w (B8 (one_ 1)).toArray 26 (0, 0) (size := 32) 1 rfl
    simpa [H8] using this
  have f1 : Below w.heap.size w (w.alloc (.cells (B8 (one_ 1)).toArray 26)) := (Below.refl _ _).alloc (Nat.le_refl _) _
  generalize w.alloc (.cells (B8 (one_ 1)).toArray 26) = w1 at *
  clear hbl
  refine (start_ok (some ⟨w.heap.size, 0, none⟩) 1 1 [one_ 1] (one_ 2) (one_ 3) 5 w1 s1 (by omega) (by omega) rfl rfl ⟨by decide, by decide⟩).mono ?_
  rintro e w2 ⟨A, c, rfl, sl2, hb2, _⟩
  have f2 := f1.trans (hb2.mono f1.size)
  dsimp only
  have hl : GLen (turnD (startD ((1 : Nat) : Int) (one_ 2) (one_ 3) 5)) := ⟨rfl, rfl, rfl⟩
  have e1 : (turnD (startD ((1 : Nat) : Int) (one_ 2) (one_ 3) 5)).turn = 3 := rfl
  have e2 : (turnD (startD ((1 : Nat) : Int) (one_ 2) (one_ 3) 5)).hi = 1 := rfl
  have e3 : (turnD (startD ((1 : Nat) : Int) (one_ 2) (one_ 3) 5)).limit = 8 := rfl
  have E1 := Lib.hid e1
  have E2 := Lib.hid e2
  have E3 := Lib.hid e3
  clear e1 e2 e3
  generalize turnD (startD ((1 : Nat) : Int) (one_ 2) (one_ 3) 5) = d at *
  go_wp2_with (first
    | (refine wpl_gput (Blk.new _ _ _) zero_len hl rfl (by rfl) _ _ _ rfl rfl rfl info_g ?_
       intro w3 gb3 bu3
       have c0 := gb3.c0
       have c99 := gb3.c99
       have c2 := gb3.c2
       have c101 := gb3.c101
       rw [E1.out] at c99
       rw [E2.out] at c2
       rw [E3.out] at c101))
  go_ret
  exact ⟨rfl, (f2.alloc f2.size _).trans (below_but bu3 f2.size (by simp; exact Nat.le_succ_of_le f2.size))⟩
end Go.Proofs.Ytaaiembhdfgkjaa
