/- CodeEdges: the law returns true whatever the input, and leaves each argument as it was. No conditions. -/
import Derived.Test.YtoecbgdkbncfbaaRows
import Derived.Test.YtoecbgdkbncfbaaArgs
import Derived.Test.YtoecbgdkbncfbaaEdges
namespace Go.Proofs.Ytoecbgdkbncfbaa.codeEdges
open Go.ChangeShapes Go.WideShapes Go.ChangeAt Go.RowKit
theorem own : ownKnob Try.prog.godebug = none := by kernel_rfl
theorem laidOut : laidOutB Try.prog = true := by kernel_rfl
theorem spec : LawSpec Rows.codeEdgesSpec 2 := ⟨rfl, fun H ds h => by
  match ds, h with
  | [d0, d1], _ => rfl⟩
set_option maxRecDepth 100000 in
theorem lifted (os : Os) (started : os.Started) (H : Type) (enc : TypeId × Value → H) :
    ReturnsInHanded {} Try.checked os 6 .any (Rows.codeEdgesSpec.pre6 enc Try.prog Try.f6 Rows.codeEdgesRow.domain false) (Rows.codeEdgesSpec.post enc Try.prog Try.f6 false true false false) := by
  refine law_lift (C := Try.checked) spec rfl 4 rfl Try.underlying4 laidOut (by kernel_rfl) own started (by kernel_rfl) Try.func6
    (ChangeSpec.witness6 (enc := enc) (C := Try.checked) false ⟨#[], #[.int .i64 0, .int .i64 0], []⟩ 8 (by kernel_rfl) (by kernel_rfl) (by kernel_rfl) (by kernel_rfl)) ?_
  intro W base vs ds p hval hA
  rw [show Try.f6.params.toList = _ from congrArg Array.toList Try.params6] at hA hval
  obtain ⟨v0, vs0, d0, ds0, p0, q0, rfl, h0, r0⟩ := trodAll_one' hA
  obtain ⟨v1, vs1, d1, ds1, p1, q1, rfl, h1, r1⟩ := trodAll_one' r0
  obtain rfl := trodAll_nil' r1
  obtain ⟨a0, rfl, a0_lo, a0_hi⟩ := arg_int Try.underlying3 (hval 0 _ _ rfl rfl) h0
  obtain ⟨a1, rfl, a1_lo, a1_hi⟩ := arg_int Try.underlying3 (hval 1 _ _ rfl rfl) h1
  exact codeEdges_walk W a0 a0_lo a0_hi a1 a1_lo a1_hi
theorem over : Rows.codeEdgesRow.holds Try.pinned (OpenSpec.ofChange Rows.codeEdgesSpec) :=
  OpenClaim.holds_of_wide 6 Try.f6 rfl rfl rfl rfl rfl rfl rfl ⟨rfl, rfl, rfl, rfl, rfl⟩ rfl rfl rfl rfl rfl (by kernel_rfl) Try.func6 (by kernel_rfl)
    (of_decide_eq_true (by kernel_rfl)) (by unfold Func.isWrapper; first | (rw [if_pos (by decide +kernel)]; kernel_rfl) | (rw [if_neg (by decide +kernel)]; exact ⟨rfl, rfl⟩))
    (fun os started H enc _ => lifted os started H enc)
end Go.Proofs.Ytoecbgdkbncfbaa.codeEdges
namespace Go.Proofs.Ytoecbgdkbncfbaa
theorem codeEdges_holds : Rows.CodeEdgesSaid := codeEdges.over
#print axioms codeEdges_holds
end Go.Proofs.Ytoecbgdkbncfbaa
