/- Arguments: bytes, and where they lie. -/
import Derived.Test.YtoecbgdkbncfbaaArgs
namespace Go.Proofs.Ytoecbgdkbncfbaa
open Go.ChangeShapes Go.WideShapes Go.ChangeAt Go.RowKit
theorem okWide_slice_at {P : Program} {W : World} {r : Reach} {base : Nat} {t e : TypeId} {A : Option Addr} {n c : Nat} (ht : P.underlying t = some (.slice e)) (h : Value.okWide P W r base t (.slice A n c)) :
    A = none ∨ ∃ b o, A = some ⟨b, o, none⟩ ∧ b < W.heap.size := by
  cases A with
  | none => exact .inl rfl
  | some a =>
    simp only [Value.okWide, ht, Cell.okWide, Cell.ok] at h
    obtain ⟨_, _, _, hs, row, cells, hsh, _⟩ := h
    obtain ⟨b, o, sp⟩ := a
    simp only at hs
    subst hs
    refine .inr ⟨b, o, rfl, ?_⟩
    by_cases hb : b < W.heap.size
    · exact hb
    · exfalso
      have : W.heap[b]? = none := by simp; omega
      simp [World.shape?, this] at hsh
end Go.Proofs.Ytoecbgdkbncfbaa
