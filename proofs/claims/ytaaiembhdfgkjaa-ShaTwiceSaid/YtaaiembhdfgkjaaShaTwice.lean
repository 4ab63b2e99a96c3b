/- ShaTwice: the law returns true whatever the input, and leaves each argument as it was. No conditions. -/
import Derived.Test.YtaaiembhdfgkjaaRows
import Derived.Test.YtaaiembhdfgkjaaArgs
import Derived.Test.YtaaiembhdfgkjaaWTwice
namespace Go.Proofs.Ytaaiembhdfgkjaa.shaTwice
open Go.ChangeShapes Go.WideShapes Go.ChangeAt Go.RowKit
theorem own : ownKnob Try.prog.godebug = none := by kernel_rfl
theorem laidOut : laidOutB Try.prog = true := by kernel_rfl
theorem spec : LawSpec Rows.shaTwiceSpec 1 := ⟨rfl, fun H ds h => by
  match ds, h with
  | [d0], _ => rfl⟩
set_option maxRecDepth 100000 in
theorem lifted (os : Os) (started : os.Started) (H : Type) (enc : TypeId × Value → H) :
    ReturnsInHanded {} Try.checked os 4 .any (Rows.shaTwiceSpec.pre6 enc Try.prog Try.f4 Rows.shaTwiceRow.domain false) (Rows.shaTwiceSpec.post enc Try.prog Try.f4 false true false false) := by
  refine law_lift (C := Try.checked) spec rfl 4 rfl Try.underlying4 laidOut (by kernel_rfl) own started (by kernel_rfl) Try.func4
    (ChangeSpec.witness6 (enc := enc) (C := Try.checked) false ⟨#[], #[.slice none 0 0], []⟩ 8 (by kernel_rfl) (by kernel_rfl) (by kernel_rfl) (by kernel_rfl)) ?_
  intro W base vs ds p hval hA
  rw [show Try.f4.params.toList = _ from congrArg Array.toList Try.params4] at hA hval
  obtain ⟨v0, vs0, d0, ds0, p0, q0, rfl, h0, r0⟩ := trodAll_one' hA
  obtain rfl := trodAll_nil' r0
  obtain ⟨A0, n0, c0, ss0, rfl, le0, hc0, sb0, sl0⟩ := arg_bytess Try.underlying29 Try.underlying24 Try.underlying5 (by kernel_rfl) (by kernel_rfl) (hval 0 _ _ rfl rfl) h0
  exact shaTwice_walk W A0 n0 c0 ss0 le0 hc0 sb0 sl0
theorem over : Rows.shaTwiceRow.holds Try.pinned (OpenSpec.ofChange Rows.shaTwiceSpec) :=
  OpenClaim.holds_of_wide 4 Try.f4 rfl rfl rfl rfl rfl rfl rfl ⟨rfl, rfl, rfl, rfl, rfl⟩ rfl rfl rfl rfl rfl (by kernel_rfl) Try.func4 (by kernel_rfl)
    (of_decide_eq_true (by kernel_rfl)) (by unfold Func.isWrapper; first | (rw [if_pos (by decide +kernel)]; kernel_rfl) | (rw [if_neg (by decide +kernel)]; exact ⟨rfl, rfl⟩))
    (fun os started H enc _ => lifted os started H enc)
end Go.Proofs.Ytaaiembhdfgkjaa.shaTwice
namespace Go.Proofs.Ytaaiembhdfgkjaa
theorem shaTwice_holds : Rows.ShaTwiceSaid := shaTwice.over
#print axioms shaTwice_holds
end Go.Proofs.Ytaaiembhdfgkjaa
