/- The walk of capstanlaw12.TraceProves. -/
import Derived.Test.YtakebmpnbdlcoaaProvesA
import Derived.Test.YtakebmpnbdlcoaaProvesB
set_option linter.unusedSimpArgs false
set_option linter.unusedVariables false
namespace Go.Proofs.Ytakebmpnbdlcoaa
open Go.RowKit
set_option maxRecDepth 100000
theorem traceProves_walk (w : World) (a : Int) (a_lo : -9223372036854775808 ≤ a) (a_hi : a < 9223372036854775808) (b : Int) (b_lo : -9223372036854775808 ≤ b) (b_hi : b < 9223372036854775808) (d : Int) (d_lo : -9223372036854775808 ≤ d) (d_hi : d < 9223372036854775808) (t : Int) (t_lo : -9223372036854775808 ≤ t) (t_hi : t < 9223372036854775808) :
    Calls Try.prog 11 #[.int .i64 a, .int .i64 b, .int .i64 d, .int .i64 t] w (RB true w) := by
  by_cases hh : b % (1 + a % 40) = d % (1 + a % 40)
  · exact traceProves_same w a a_lo a_hi b b_lo b_hi d d_lo d_hi t t_lo t_hi hh
  · exact traceProves_other w a a_lo a_hi b b_lo b_hi d d_lo d_hi t t_lo t_hi hh
end Go.Proofs.Ytakebmpnbdlcoaa
