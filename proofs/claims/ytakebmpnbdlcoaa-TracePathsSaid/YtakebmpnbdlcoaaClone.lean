/- Walks: slices.Clone at bytes. -/
import Derived.Test.YtakebmpnbdlcoaaProg
import Derived.Test.YtakebmpnbdlcoaaLib
set_option linter.unusedSimpArgs false
set_option linter.unusedVariables false
namespace Go.Proofs.Ytakebmpnbdlcoaa
open Go.RowKit
set_option maxRecDepth 100000

theorem elB : El Try.prog 67 5 1 1 := El.mk' (z := .int .u8 0) Try.underlying67 (by kernel_rfl) rfl (by decide)

/-- slices.Clone at bytes. -/
theorem clone_B (A : Option Addr) (n c : Nat) (xs : List Value) (w : World) (h : Sl w 1 A n xs) (h1 : ∀ u ∈ xs, u.oneCell' = true) (hn : n ≤ 140737488355328) :
    Calls Try.prog 59 #[.slice A n c] w (RSl w 5 1 xs) := by
  have q : ∀ (W : World) (A : Option Addr), (binOp .eql 67 (.slice A n c) (.slice none 0 0)).run Try.prog W = .ok (.bool A.isNone) W := fun W A => Lib.run_eql_slice_nil W _ _ A n c 0 0 Try.underlying67
  rcases A with _ | ad
  · obtain rfl : n = 0 := by
      rcases Nat.eq_zero_or_pos n with h0 | h0
      · exact h0
      · obtain ⟨_, _, h, _⟩ := h.cells h0
        cases h
    obtain rfl : xs = [] := List.eq_nil_of_length_eq_zero (by simpa using h.len)
    go_enter Try.func59, Try.ntmps59
    go_wp2
    go_ret
    exact RSl.mk Own.nil_ (Below.refl _ _)
  · go_enter Try.func59, Try.ntmps59
    go_wp2_with (first
      | (at_builtin
         refine wpl_app _ _ _ _ elB rfl rfl rfl (Own.made w w.heap.size 5 #[] (Nat.le_refl _) (Nat.zero_le _) (by simp)) rfl (h.alloc _) h1 (by omega) (by omega) (by simp) ?_
         intro A' c' w' g))
    go_ret
    refine RSl.mk (by simpa using g.own) ?_
    exact below_grown ((Below.refl _ _).alloc (Nat.le_refl _) _) g.grow (by simp) (by intro k hk; simp at hk; omega)

end Go.Proofs.Ytakebmpnbdlcoaa
