/- CodeReads: the law returns true whatever the input, and leaves each argument as it was. No conditions. -/
import Derived.Test.YtoecbgdkbncfbaaRows
import Derived.Test.YtoecbgdkbncfbaaArgs2
import Derived.Test.YtoecbgdkbncfbaaWReads
namespace Go.Proofs.Ytoecbgdkbncfbaa.codeReads
open Go.ChangeShapes Go.WideShapes Go.ChangeAt Go.RowKit
theorem own : ownKnob Try.prog.godebug = none := by kernel_rfl
theorem laidOut : laidOutB Try.prog = true := by kernel_rfl
theorem spec : LawSpec Rows.codeReadsSpec 2 := ⟨rfl, fun H ds h => by
  match ds, h with
  | [d0, d1], _ => rfl⟩
set_option maxRecDepth 100000 in
theorem lifted (os : Os) (started : os.Started) (H : Type) (enc : TypeId × Value → H) :
    ReturnsInHanded {} Try.checked os 8 .any (Rows.codeReadsSpec.pre6 enc Try.prog Try.f8 Rows.codeReadsRow.domain false) (Rows.codeReadsSpec.post enc Try.prog Try.f8 false true false false) := by
  refine law_lift (C := Try.checked) spec rfl 4 rfl Try.underlying4 laidOut (by kernel_rfl) own started (by kernel_rfl) Try.func8
    (ChangeSpec.witness6 (enc := enc) (C := Try.checked) false ⟨#[], #[.slice none 0 0, .slice none 0 0], []⟩ 8 (by kernel_rfl) (by kernel_rfl) (by kernel_rfl) (by kernel_rfl)) ?_
  intro W base vs ds p hval hA
  rw [show Try.f8.params.toList = _ from congrArg Array.toList Try.params8] at hA hval
  obtain ⟨v0, vs0, d0, ds0, p0, q0, rfl, h0, r0⟩ := trodAll_one' hA
  obtain ⟨v1, vs1, d1, ds1, p1, q1, rfl, h1, r1⟩ := trodAll_one' r0
  obtain rfl := trodAll_nil' r1
  obtain ⟨A0, n0, c0, b0, rfl, le0, hc0, sl0⟩ := arg_bytes Try.underlying24 Try.underlying5 (by kernel_rfl) (hval 0 _ _ rfl rfl) h0
  obtain ⟨A1, n1, c1, z1, rfl, le1, hc1, zb1, sl1⟩ := arg_ints Try.underlying39 Try.underlying3 (by kernel_rfl) (hval 1 _ _ rfl rfl) h1
  exact codeReads_walk W A0 n0 c0 b0 le0 hc0 sl0 (okWide_slice_at Try.underlying24 (hval 0 _ _ rfl rfl)) A1 n1 c1 z1 le1 hc1 zb1 sl1
theorem over : Rows.codeReadsRow.holds Try.pinned (OpenSpec.ofChange Rows.codeReadsSpec) :=
  OpenClaim.holds_of_wide 8 Try.f8 rfl rfl rfl rfl rfl rfl rfl ⟨rfl, rfl, rfl, rfl, rfl⟩ rfl rfl rfl rfl rfl (by kernel_rfl) Try.func8 (by kernel_rfl)
    (of_decide_eq_true (by kernel_rfl)) (by unfold Func.isWrapper; first | (rw [if_pos (by decide +kernel)]; kernel_rfl) | (rw [if_neg (by decide +kernel)]; exact ⟨rfl, rfl⟩))
    (fun os started H enc _ => lifted os started H enc)
end Go.Proofs.Ytoecbgdkbncfbaa.codeReads
namespace Go.Proofs.Ytoecbgdkbncfbaa
theorem codeReads_holds : Rows.CodeReadsSaid := codeReads.over
#print axioms codeReads_holds
end Go.Proofs.Ytoecbgdkbncfbaa
