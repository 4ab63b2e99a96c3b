/- TraceCommits: the law returns true whatever the input, and leaves each argument as it was. No conditions. -/
import Derived.Test.YtakebmpnbdlcoaaRows
import Derived.Test.YtakebmpnbdlcoaaArgs3
import Derived.Test.YtakebmpnbdlcoaaWCommits
set_option linter.unusedSimpArgs false
set_option linter.unusedVariables false
namespace Go.Proofs.Ytakebmpnbdlcoaa.traceCommits
open Go.ChangeShapes Go.WideShapes Go.ChangeAt Go.RowKit
theorem own : ownKnob Try.prog.godebug = none := by kernel_rfl
theorem laidOut : laidOutB Try.prog = true := by kernel_rfl
theorem spec : LawSpec Rows.traceCommitsSpec 5 := ⟨rfl, fun H ds h => by
  match ds, h with
  | [d0, d1, d2, d3, d4], _ => rfl⟩
set_option maxRecDepth 100000 in
theorem lifted (os : Os) (started : os.Started) (H : Type) (enc : TypeId × Value → H) :
    ReturnsInHanded {} Try.checked os 10 .any (Rows.traceCommitsSpec.pre6 enc Try.prog Try.f10 Rows.traceCommitsRow.domain false) (Rows.traceCommitsSpec.post enc Try.prog Try.f10 false true false false) := by
  refine law_lift (C := Try.checked) spec rfl 4 rfl Try.underlying4 laidOut (by kernel_rfl) own started (by kernel_rfl) Try.func10
    (ChangeSpec.witness6 (enc := enc) (C := Try.checked) false ⟨#[], #[.slice none 0 0, .int .i64 0, .agg #[.int .u8 0, .int .u8 0, .int .u8 0, .int .u8 0, .int .u8 0, .int .u8 0, .int .u8 0, .int .u8 0, .int .u8 0, .int .u8 0, .int .u8 0, .int .u8 0, .int .u8 0, .int .u8 0, .int .u8 0, .int .u8 0, .int .u8 0, .int .u8 0, .int .u8 0, .int .u8 0, .int .u8 0, .int .u8 0, .int .u8 0, .int .u8 0, .int .u8 0, .int .u8 0, .int .u8 0, .int .u8 0, .int .u8 0, .int .u8 0, .int .u8 0, .int .u8 0], .slice none 0 0, .int .i64 0], []⟩ 8 (by kernel_rfl) (by kernel_rfl) (by kernel_rfl) (by kernel_rfl)) ?_
  intro W base vs ds p hval hA
  rw [show Try.f10.params.toList = _ from congrArg Array.toList Try.params10] at hA hval
  obtain ⟨v0, vs0, d0, ds0, p0, q0, rfl, h0, r0⟩ := trodAll_one' hA
  obtain ⟨v1, vs1, d1, ds1, p1, q1, rfl, h1, r1⟩ := trodAll_one' r0
  obtain ⟨v2, vs2, d2, ds2, p2, q2, rfl, h2, r2⟩ := trodAll_one' r1
  obtain ⟨v3, vs3, d3, ds3, p3, q3, rfl, h3, r3⟩ := trodAll_one' r2
  obtain ⟨v4, vs4, d4, ds4, p4, q4, rfl, h4, r4⟩ := trodAll_one' r3
  obtain rfl := trodAll_nil' r4
  obtain ⟨A0, n0, c0, z0, rfl, le0, hc0, ha0, hl0, sl0⟩ := arg_hashes Try.underlying52 Try.underlying27 Try.underlying5 (by kernel_rfl) (by kernel_rfl) (hval 0 _ _ rfl rfl) h0
  obtain ⟨a1, rfl, a1_lo, a1_hi⟩ := arg_int Try.underlying3 (hval 1 _ _ rfl rfl) h1
  obtain ⟨g2, rfl, hl2⟩ := arg_hash Try.underlying27 Try.underlying5 (by kernel_rfl) (by kernel_rfl) (hval 2 _ _ rfl rfl) h2
  obtain ⟨A3, n3, c3, z3, rfl, le3, hc3, ha3, hl3, sl3⟩ := arg_hashes Try.underlying52 Try.underlying27 Try.underlying5 (by kernel_rfl) (by kernel_rfl) (hval 3 _ _ rfl rfl) h3
  obtain ⟨a4, rfl, a4_lo, a4_hi⟩ := arg_int Try.underlying3 (hval 4 _ _ rfl rfl) h4
  exact traceCommits_walk W A0 n0 c0 z0 le0 hc0 ha0 hl0 sl0 a1 a1_lo a1_hi g2 hl2 A3 n3 c3 z3 le3 hc3 ha3 hl3 sl3 a4 a4_lo a4_hi
theorem over : Rows.traceCommitsRow.holds Try.pinned (OpenSpec.ofChange Rows.traceCommitsSpec) :=
  OpenClaim.holds_of_wide 10 Try.f10 rfl rfl rfl rfl rfl rfl rfl ⟨rfl, rfl, rfl, rfl, rfl⟩ rfl rfl rfl rfl rfl (by kernel_rfl) Try.func10 (by kernel_rfl)
    (of_decide_eq_true (by kernel_rfl)) (by unfold Func.isWrapper; first | (rw [if_pos (by decide +kernel)]; kernel_rfl) | (rw [if_neg (by decide +kernel)]; exact ⟨rfl, rfl⟩))
    (fun os started H enc _ => lifted os started H enc)
end Go.Proofs.Ytakebmpnbdlcoaa.traceCommits
namespace Go.Proofs.Ytakebmpnbdlcoaa
theorem traceCommits_holds : Rows.TraceCommitsSaid := traceCommits.over
#print axioms traceCommits_holds
end Go.Proofs.Ytakebmpnbdlcoaa
