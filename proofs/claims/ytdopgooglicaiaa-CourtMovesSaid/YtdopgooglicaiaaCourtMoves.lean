/- CourtMoves: the law returns true whatever the input, and leaves each argument as it was. No conditions. -/
import Derived.Test.YtdopgooglicaiaaRows
import Derived.Test.YtdopgooglicaiaaPartA
import Derived.Test.YtdopgooglicaiaaPartM
set_option linter.unusedSimpArgs false
set_option linter.unusedVariables false
namespace Go.Proofs.Ytdopgooglicaiaa.courtMoves
open Go.ChangeShapes Go.WideShapes Go.ChangeAt Go.RowKit
theorem own : ownKnob Try.prog.godebug = none := by kernel_rfl
theorem laidOut : laidOutB Try.prog = true := by kernel_rfl
theorem spec : LawSpec Rows.courtMovesSpec 3 := ⟨rfl, fun H ds h => by
  match ds, h with
  | [d0, d1, d2], _ => rfl⟩
set_option maxRecDepth 100000 in
theorem lifted (os : Os) (started : os.Started) (H : Type) (enc : TypeId × Value → H) :
    ReturnsInHanded {} Try.checked os 5 .any (Rows.courtMovesSpec.pre6 enc Try.prog Try.f5 Rows.courtMovesRow.domain false) (Rows.courtMovesSpec.post enc Try.prog Try.f5 false true false false) := by
  refine law_lift (C := Try.checked) spec rfl 4 rfl Try.underlying4 laidOut (by kernel_rfl) own started (by kernel_rfl) Try.func5
    (ChangeSpec.witness6 (enc := enc) (C := Try.checked) false ⟨#[], #[.int .i64 0, .int .i64 0, .int .i64 0], []⟩ 8 (by kernel_rfl) (by kernel_rfl) (by kernel_rfl) (by kernel_rfl)) ?_
  intro W base vs ds p hval hA
  rw [show Try.f5.params.toList = _ from congrArg Array.toList Try.params5] at hA hval
  obtain ⟨v0, vs0, d0, ds0, p0, q0, rfl, h0, r0⟩ := trodAll_one' hA
  obtain ⟨v1, vs1, d1, ds1, p1, q1, rfl, h1, r1⟩ := trodAll_one' r0
  obtain ⟨v2, vs2, d2, ds2, p2, q2, rfl, h2, r2⟩ := trodAll_one' r1
  obtain rfl := trodAll_nil' r2
  obtain ⟨a0, rfl, a0_lo, a0_hi⟩ := arg_int Try.underlying3 (hval 0 _ _ rfl rfl) h0
  obtain ⟨a1, rfl, a1_lo, a1_hi⟩ := arg_int Try.underlying3 (hval 1 _ _ rfl rfl) h1
  obtain ⟨a2, rfl, a2_lo, a2_hi⟩ := arg_int Try.underlying3 (hval 2 _ _ rfl rfl) h2
  exact courtMoves_walk W a0 a0_lo a0_hi a1 a1_lo a1_hi a2 a2_lo a2_hi
theorem over : Rows.courtMovesRow.holds Try.pinned (OpenSpec.ofChange Rows.courtMovesSpec) :=
  OpenClaim.holds_of_wide 5 Try.f5 rfl rfl rfl rfl rfl rfl rfl ⟨rfl, rfl, rfl, rfl, rfl⟩ rfl rfl rfl rfl rfl (by kernel_rfl) Try.func5 (by kernel_rfl)
    (of_decide_eq_true (by kernel_rfl)) (by unfold Func.isWrapper; first | (rw [if_pos (by decide +kernel)]; kernel_rfl) | (rw [if_neg (by decide +kernel)]; exact ⟨rfl, rfl⟩))
    (fun os started H enc _ => lifted os started H enc)
end Go.Proofs.Ytdopgooglicaiaa.courtMoves
namespace Go.Proofs.Ytdopgooglicaiaa
theorem courtMoves_holds : Rows.CourtMovesSaid := courtMoves.over
#print axioms courtMoves_holds
end Go.Proofs.Ytdopgooglicaiaa
