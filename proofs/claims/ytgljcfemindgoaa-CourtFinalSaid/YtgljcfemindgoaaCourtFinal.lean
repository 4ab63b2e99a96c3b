/- CourtFinal: the law returns true whatever the input, and leaves each argument as it was. No conditions. -/
import Derived.Test.YtgljcfemindgoaaRows
import Derived.Test.YtgljcfemindgoaaPartA
import Derived.Test.YtgljcfemindgoaaPartO
set_option linter.unusedSimpArgs false
set_option linter.unusedVariables false
namespace Go.Proofs.Ytgljcfemindgoaa.courtFinal
open Go.ChangeShapes Go.WideShapes Go.ChangeAt Go.RowKit
theorem own : ownKnob Try.prog.godebug = none := by kernel_rfl
theorem laidOut : laidOutB Try.prog = true := by kernel_rfl
theorem spec : LawSpec Rows.courtFinalSpec 2 := ⟨rfl, fun H ds h => by
  match ds, h with
  | [d0, d1], _ => rfl⟩
set_option maxRecDepth 100000 in
theorem lifted (os : Os) (started : os.Started) (H : Type) (enc : TypeId × Value → H) :
    ReturnsInHanded {} Try.checked os 4 .any (Rows.courtFinalSpec.pre6 enc Try.prog Try.f4 Rows.courtFinalRow.domain false) (Rows.courtFinalSpec.post enc Try.prog Try.f4 false true false false) := by
  refine law_lift (C := Try.checked) spec rfl 4 rfl Try.underlying4 laidOut (by kernel_rfl) own started (by kernel_rfl) Try.func4
    (ChangeSpec.witness6 (enc := enc) (C := Try.checked) false ⟨#[], #[.int .i64 0, .int .i64 0], []⟩ 8 (by kernel_rfl) (by kernel_rfl) (by kernel_rfl) (by kernel_rfl)) ?_
  intro W base vs ds p hval hA
  rw [show Try.f4.params.toList = _ from congrArg Array.toList Try.params4] at hA hval
  obtain ⟨v0, vs0, d0, ds0, p0, q0, rfl, h0, r0⟩ := trodAll_one' hA
  obtain ⟨v1, vs1, d1, ds1, p1, q1, rfl, h1, r1⟩ := trodAll_one' r0
  obtain rfl := trodAll_nil' r1
  obtain ⟨a0, rfl, a0_lo, a0_hi⟩ := arg_int Try.underlying3 (hval 0 _ _ rfl rfl) h0
  obtain ⟨a1, rfl, a1_lo, a1_hi⟩ := arg_int Try.underlying3 (hval 1 _ _ rfl rfl) h1
  exact courtFinal_walk W a0 a0_lo a0_hi a1 a1_lo a1_hi
theorem over : Rows.courtFinalRow.holds Try.pinned (OpenSpec.ofChange Rows.courtFinalSpec) :=
  OpenClaim.holds_of_wide 4 Try.f4 rfl rfl rfl rfl rfl rfl rfl ⟨rfl, rfl, rfl, rfl, rfl⟩ rfl rfl rfl rfl rfl (by kernel_rfl) Try.func4 (by kernel_rfl)
    (of_decide_eq_true (by kernel_rfl)) (by unfold Func.isWrapper; first | (rw [if_pos (by decide +kernel)]; kernel_rfl) | (rw [if_neg (by decide +kernel)]; exact ⟨rfl, rfl⟩))
    (fun os started H enc _ => lifted os started H enc)
end Go.Proofs.Ytgljcfemindgoaa.courtFinal
namespace Go.Proofs.Ytgljcfemindgoaa
theorem courtFinal_holds : Rows.CourtFinalSaid := courtFinal.over
#print axioms courtFinal_holds
end Go.Proofs.Ytgljcfemindgoaa
