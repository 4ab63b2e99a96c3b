/- Plain law: the sum of "abc". -/
import Derived.Test.YtakebmpnbdlcoaaShaSpec
set_option linter.unusedSimpArgs false
set_option linter.unusedVariables false
namespace Go.Proofs.Ytakebmpnbdlcoaa
theorem sha_abc : (hexS (shaS [97, 98, 99])).take 8 = [98, 97, 55, 56, 49, 54, 98, 102] := by decide +kernel
theorem hexS_len (h : List UInt8) : (hexS h).length = 2 * h.length := by
  induction h with
  | nil => rfl
  | cons a l ih => rw [hexS, List.flatMap_cons, List.length_append]; rw [hexS] at ih; rw [ih]; simp; omega
end Go.Proofs.Ytakebmpnbdlcoaa
