/- TreeOrder: the law returns true whatever the input, and leaves each argument as it was. No conditions. -/
import Derived.Test.YtakebmpnbdlcoaaRows
import Derived.Test.YtakebmpnbdlcoaaPartA
import Derived.Test.YtakebmpnbdlcoaaPartH
set_option linter.unusedSimpArgs false
set_option linter.unusedVariables false
namespace Go.Proofs.Ytakebmpnbdlcoaa.treeOrder
open Go.ChangeShapes Go.WideShapes Go.ChangeAt Go.RowKit
theorem own : ownKnob Try.prog.godebug = none := by kernel_rfl
theorem laidOut : laidOutB Try.prog = true := by kernel_rfl
theorem spec : LawSpec Rows.treeOrderSpec 3 := ⟨rfl, fun H ds h => by
  match ds, h with
  | [d0, d1, d2], _ => rfl⟩
set_option maxRecDepth 100000 in
theorem lifted (os : Os) (started : os.Started) (H : Type) (enc : TypeId × Value → H) :
    ReturnsInHanded {} Try.checked os 4 .any (Rows.treeOrderSpec.pre6 enc Try.prog Try.f4 Rows.treeOrderRow.domain false) (Rows.treeOrderSpec.post enc Try.prog Try.f4 false true false false) := by
  refine law_lift (C := Try.checked) spec rfl 4 rfl Try.underlying4 laidOut (by kernel_rfl) own started (by kernel_rfl) Try.func4
    (ChangeSpec.witness6 (enc := enc) (C := Try.checked) false ⟨#[], #[.slice none 0 0, .int .i64 0, .int .i64 0], []⟩ 8 (by kernel_rfl) (by kernel_rfl) (by kernel_rfl) (by kernel_rfl)) ?_
  intro W base vs ds p hval hA
  rw [show Try.f4.params.toList = _ from congrArg Array.toList Try.params4] at hA hval
  obtain ⟨v0, vs0, d0, ds0, p0, q0, rfl, h0, r0⟩ := trodAll_one' hA
  obtain ⟨v1, vs1, d1, ds1, p1, q1, rfl, h1, r1⟩ := trodAll_one' r0
  obtain ⟨v2, vs2, d2, ds2, p2, q2, rfl, h2, r2⟩ := trodAll_one' r1
  obtain rfl := trodAll_nil' r2
  obtain ⟨A0, n0, c0, z0, rfl, le0, hc0, zb0, sl0⟩ := arg_ints Try.underlying30 Try.underlying3 (by kernel_rfl) (hval 0 _ _ rfl rfl) h0
  obtain ⟨a1, rfl, a1_lo, a1_hi⟩ := arg_int Try.underlying3 (hval 1 _ _ rfl rfl) h1
  obtain ⟨a2, rfl, a2_lo, a2_hi⟩ := arg_int Try.underlying3 (hval 2 _ _ rfl rfl) h2
  exact treeOrder_walk W A0 n0 c0 z0 le0 hc0 zb0 sl0 a1 a1_lo a1_hi a2 a2_lo a2_hi
theorem over : Rows.treeOrderRow.holds Try.pinned (OpenSpec.ofChange Rows.treeOrderSpec) :=
  OpenClaim.holds_of_wide 4 Try.f4 rfl rfl rfl rfl rfl rfl rfl ⟨rfl, rfl, rfl, rfl, rfl⟩ rfl rfl rfl rfl rfl (by kernel_rfl) Try.func4 (by kernel_rfl)
    (of_decide_eq_true (by kernel_rfl)) (by unfold Func.isWrapper; first | (rw [if_pos (by decide +kernel)]; kernel_rfl) | (rw [if_neg (by decide +kernel)]; exact ⟨rfl, rfl⟩))
    (fun os started H enc _ => lifted os started H enc)
end Go.Proofs.Ytakebmpnbdlcoaa.treeOrder
namespace Go.Proofs.Ytakebmpnbdlcoaa
theorem treeOrder_holds : Rows.TreeOrderSaid := treeOrder.over
#print axioms treeOrder_holds
end Go.Proofs.Ytakebmpnbdlcoaa
