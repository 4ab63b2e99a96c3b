/- TreeAsks: the law returns true whatever the input, and leaves each argument as it was. No conditions. -/
import Derived.Test.YtakebmpnbdlcoaaRows
import Derived.Test.YtakebmpnbdlcoaaPartF
import Derived.Test.YtakebmpnbdlcoaaPartH
set_option linter.unusedSimpArgs false
set_option linter.unusedVariables false
namespace Go.Proofs.Ytakebmpnbdlcoaa.treeAsks
open Go.ChangeShapes Go.WideShapes Go.ChangeAt Go.RowKit
theorem own : ownKnob Try.prog.godebug = none := by kernel_rfl
theorem laidOut : laidOutB Try.prog = true := by kernel_rfl
theorem spec : LawSpec Rows.treeAsksSpec 4 := ⟨rfl, fun H ds h => by
  match ds, h with
  | [d0, d1, d2, d3], _ => rfl⟩
set_option maxRecDepth 100000 in
theorem lifted (os : Os) (started : os.Started) (H : Type) (enc : TypeId × Value → H) :
    ReturnsInHanded {} Try.checked os 6 .any (Rows.treeAsksSpec.pre6 enc Try.prog Try.f6 Rows.treeAsksRow.domain false) (Rows.treeAsksSpec.post enc Try.prog Try.f6 false true false false) := by
  refine law_lift (C := Try.checked) spec rfl 4 rfl Try.underlying4 laidOut (by kernel_rfl) own started (by kernel_rfl) Try.func6
    (ChangeSpec.witness6 (enc := enc) (C := Try.checked) false ⟨#[], #[.slice none 0 0, .agg #[.int .i64 0, .int .i64 0, .int .i64 0, .int .i64 0], .int .i64 0, .agg (Array.replicate 256 (.int .u8 0))], []⟩ 8 (by kernel_rfl) (by kernel_rfl) (by kernel_rfl) (by kernel_rfl)) ?_
  intro W base vs ds p hval hA
  rw [show Try.f6.params.toList = _ from congrArg Array.toList Try.params6] at hA hval
  obtain ⟨v0, vs0, d0, ds0, p0, q0, rfl, h0, r0⟩ := trodAll_one' hA
  obtain ⟨v1, vs1, d1, ds1, p1, q1, rfl, h1, r1⟩ := trodAll_one' r0
  obtain ⟨v2, vs2, d2, ds2, p2, q2, rfl, h2, r2⟩ := trodAll_one' r1
  obtain ⟨v3, vs3, d3, ds3, p3, q3, rfl, h3, r3⟩ := trodAll_one' r2
  obtain rfl := trodAll_nil' r3
  obtain ⟨A0, n0, c0, z0, rfl, le0, hc0, zb0, sl0⟩ := arg_ints Try.underlying30 Try.underlying3 (by kernel_rfl) (hval 0 _ _ rfl rfl) h0
  obtain ⟨x1, rfl, xw1⟩ := arg_acc Try.underlying23 Try.underlying3 (by kernel_rfl) (by kernel_rfl) ⟨rfl, rfl⟩ ⟨rfl, rfl⟩ ⟨rfl, rfl⟩ ⟨rfl, rfl⟩ (hval 1 _ _ rfl rfl) h1
  obtain ⟨a2, rfl, a2_lo, a2_hi⟩ := arg_int Try.underlying3 (hval 2 _ _ rfl rfl) h2
  obtain ⟨g3, rfl, gl3, ga3⟩ := arg_path Try.underlying41 Try.underlying27 Try.underlying5 (by kernel_rfl) (by kernel_rfl) (by kernel_rfl) (hval 3 _ _ rfl rfl) h3
  exact treeAsks_walk W A0 n0 c0 z0 le0 hc0 zb0 sl0 x1 xw1 a2 a2_lo a2_hi g3 gl3 ga3
theorem over : Rows.treeAsksRow.holds Try.pinned (OpenSpec.ofChange Rows.treeAsksSpec) :=
  OpenClaim.holds_of_wide 6 Try.f6 rfl rfl rfl rfl rfl rfl rfl ⟨rfl, rfl, rfl, rfl, rfl⟩ rfl rfl rfl rfl rfl (by kernel_rfl) Try.func6 (by kernel_rfl)
    (of_decide_eq_true (by kernel_rfl)) (by unfold Func.isWrapper; first | (rw [if_pos (by decide +kernel)]; kernel_rfl) | (rw [if_neg (by decide +kernel)]; exact ⟨rfl, rfl⟩))
    (fun os started H enc _ => lifted os started H enc)
end Go.Proofs.Ytakebmpnbdlcoaa.treeAsks
namespace Go.Proofs.Ytakebmpnbdlcoaa
theorem treeAsks_holds : Rows.TreeAsksSaid := treeAsks.over
#print axioms treeAsks_holds
end Go.Proofs.Ytakebmpnbdlcoaa
