/- Walks: a game's small functions: clock, turn, may, moved, own. -/
import Derived.Test.YtakebmpnbdlcoaaGame
import Derived.Test.YtakebmpnbdlcoaaProg
set_option linter.unusedSimpArgs false
set_option linter.unusedVariables false
namespace Go.Proofs.Ytakebmpnbdlcoaa
open Go.RowKit
set_option maxRecDepth 100000
theorem elH : El Try.prog 52 27 32 32 := El.mk' (z := .agg #[.int .u8 0, .int .u8 0, .int .u8 0, .int .u8 0, .int .u8 0, .int .u8 0, .int .u8 0, .int .u8 0, .int .u8 0, .int .u8 0, .int .u8 0, .int .u8 0, .int .u8 0, .int .u8 0, .int .u8 0, .int .u8 0, .int .u8 0, .int .u8 0, .int .u8 0, .int .u8 0, .int .u8 0, .int .u8 0, .int .u8 0, .int .u8 0, .int .u8 0, .int .u8 0, .int .u8 0, .int .u8 0, .int .u8 0, .int .u8 0, .int .u8 0, .int .u8 0]) Try.underlying52 (by kernel_rfl) rfl (by decide)
def clockB (n : Int) : Prop := 0 ≤ n ∧ n ≤ 1099511627776
/-- A call that hands back a game. -/
def RGv (w : World) (v : Value) (d : GD) (en : Ending) (w' : World) : Prop := en = .returned (gval v d) ∧ Below w.heap.size w w'
def movedD (d : GD) (now : Int) : GD := { d with moves := d.moves + 1, limit := now + 3 }
def turnD (d : GD) : GD := { d with turn := if d.hi - d.lo = 1 then 3 else 1 }
def overD (d : GD) (won : Bool) : GD := { d with turn := 4, won := won, cl := if won then 200 else 0, ref := if won then 0 else 200 }
set_option maxRecDepth 100000
theorem one_int {k : IntKind} {z : Int} : ∀ u ∈ [Value.int k z], u.oneCell' = true := by intro u hu; simp at hu; subst hu; rfl
theorem one_bool {z : Bool} : ∀ u ∈ [Value.bool z], u.oneCell' = true := by intro u hu; simp at hu; subst hu; rfl
theorem H8_one (hs : List (List UInt8)) : ∀ u ∈ H8 hs, u.oneCell' = true := by
  intro u hu
  obtain ⟨h, _, hu⟩ := List.mem_flatMap.1 hu
  exact B8_one _ _ hu
theorem clone_H (A : Option Addr) (n c : Nat) (xs : List Value) (w : World) (h : Sl w 32 A n xs) (h1 : ∀ u ∈ xs, u.oneCell' = true) (hn : n ≤ 4194304) :
    Calls Try.prog 54 #[.slice A n c] w (RSl w 27 32 xs) := by
  have q : ∀ (W : World) (A : Option Addr), (binOp .eql 52 (.slice A n c) (.slice none 0 0)).run Try.prog W = .ok (.bool A.isNone) W := fun W A => Lib.run_eql_slice_nil W _ _ A n c 0 0 Try.underlying52
  rcases A with _ | ad
  · obtain rfl : n = 0 := by
      rcases Nat.eq_zero_or_pos n with h0 | h0
      · exact h0
      · obtain ⟨_, _, h, _⟩ := h.cells h0
        cases h
    obtain rfl : xs = [] := List.eq_nil_of_length_eq_zero (by simpa using h.len)
    go_enter Try.func54, Try.ntmps54
    go_wp2
    go_ret
    exact RSl.mk Own.nil_ (Below.refl _ _)
  · go_enter Try.func54, Try.ntmps54
    go_wp2_with (first
      | (at_builtin
         refine wpl_app _ _ _ _ elH rfl rfl rfl (Own.made w w.heap.size 27 #[] (Nat.le_refl _) (Nat.zero_le _) (by simp)) rfl (h.alloc _) h1 (by omega) (by omega) (by simp) ?_
         intro A' c' w' g))
    go_ret
    refine RSl.mk (by simpa using g.own) ?_
    exact below_grown ((Below.refl _ _).alloc (Nat.le_refl _) _) g.grow (by simp) (by intro k hk; simp at hk; omega)
/-- A call that hands back a game over transactions of its own. -/
def RGo (w : World) (hs : List (List UInt8)) (n : Nat) (d : GD) (en : Ending) (w' : World) : Prop := ∃ A c, en = .returned (gval (.slice A n c) d) ∧ Sl w' 32 A n (H8 hs) ∧ Below w.heap.size w w' ∧ ∀ b, A.map (·.block) = some b → w.heap.size ≤ b
instance (n : Int) : Decidable (clockB n) := by unfold clockB; infer_instance
/-- what is wrong with a move -/
def mayE (d : GD) (t now : Int) : Int := if ¬ clockB now then 1 else if d.turn = 4 then 18 else if d.turn ≠ t then 17 else if d.limit < now then 18 else 0
end Go.Proofs.Ytakebmpnbdlcoaa
