/- CodeMany: the law returns true whatever the input, and leaves each argument as it was. No conditions. -/
import Derived.Test.YtoecbgdkbncfbaaRows
import Derived.Test.YtoecbgdkbncfbaaArgs
import Derived.Test.YtoecbgdkbncfbaaMany
namespace Go.Proofs.Ytoecbgdkbncfbaa.codeMany
open Go.ChangeShapes Go.WideShapes Go.ChangeAt Go.RowKit
theorem own : ownKnob Try.prog.godebug = none := by kernel_rfl
theorem laidOut : laidOutB Try.prog = true := by kernel_rfl
theorem spec : LawSpec Rows.codeManySpec 2 := ⟨rfl, fun H ds h => by
  match ds, h with
  | [d0, d1], _ => rfl⟩
set_option maxRecDepth 100000 in
theorem lifted (os : Os) (started : os.Started) (H : Type) (enc : TypeId × Value → H) :
    ReturnsInHanded {} Try.checked os 7 .any (Rows.codeManySpec.pre6 enc Try.prog Try.f7 Rows.codeManyRow.domain false) (Rows.codeManySpec.post enc Try.prog Try.f7 false true false false) := by
  refine law_lift (C := Try.checked) spec rfl 4 rfl Try.underlying4 laidOut (by kernel_rfl) own started (by kernel_rfl) Try.func7
    (ChangeSpec.witness6 (enc := enc) (C := Try.checked) false ⟨#[], #[.int .i64 0, .slice none 0 0], []⟩ 8 (by kernel_rfl) (by kernel_rfl) (by kernel_rfl) (by kernel_rfl)) ?_
  intro W base vs ds p hval hA
  rw [show Try.f7.params.toList = _ from congrArg Array.toList Try.params7] at hA hval
  obtain ⟨v0, vs0, d0, ds0, p0, q0, rfl, h0, r0⟩ := trodAll_one' hA
  obtain ⟨v1, vs1, d1, ds1, p1, q1, rfl, h1, r1⟩ := trodAll_one' r0
  obtain rfl := trodAll_nil' r1
  obtain ⟨a0, rfl, a0_lo, a0_hi⟩ := arg_int Try.underlying3 (hval 0 _ _ rfl rfl) h0
  obtain ⟨A1, n1, c1, b1, rfl, le1, hc1, sl1⟩ := arg_bytes Try.underlying24 Try.underlying5 (by kernel_rfl) (hval 1 _ _ rfl rfl) h1
  exact codeMany_walk W a0 a0_lo a0_hi A1 n1 c1 b1 le1 hc1 sl1
theorem over : Rows.codeManyRow.holds Try.pinned (OpenSpec.ofChange Rows.codeManySpec) :=
  OpenClaim.holds_of_wide 7 Try.f7 rfl rfl rfl rfl rfl rfl rfl ⟨rfl, rfl, rfl, rfl, rfl⟩ rfl rfl rfl rfl rfl (by kernel_rfl) Try.func7 (by kernel_rfl)
    (of_decide_eq_true (by kernel_rfl)) (by unfold Func.isWrapper; first | (rw [if_pos (by decide +kernel)]; kernel_rfl) | (rw [if_neg (by decide +kernel)]; exact ⟨rfl, rfl⟩))
    (fun os started H enc _ => lifted os started H enc)
end Go.Proofs.Ytoecbgdkbncfbaa.codeMany
namespace Go.Proofs.Ytoecbgdkbncfbaa
theorem codeMany_holds : Rows.CodeManySaid := codeMany.over
#print axioms codeMany_holds
end Go.Proofs.Ytoecbgdkbncfbaa
