/- Sums held against each other. -/
import Derived.Test.YtakebmpnbdlcoaaProg
import Derived.Test.YtakebmpnbdlcoaaArr
set_option linter.unusedSimpArgs false
set_option linter.unusedVariables false
namespace Go.Proofs.Ytakebmpnbdlcoaa
open Go.RowKit
set_option maxRecDepth 100000
def zero32 : List UInt8 := List.replicate 32 0
theorem zero32_one : ∀ u ∈ B8 zero32, u.oneCell' = true := B8_one _
theorem info_hash {l : List UInt8} (h : l.length = 32) : (Try.prog.info? 27).map (·.size) = some (B8 l).length := by rw [B8_len, h]; kernel_rfl
theorem info_u8' : ∃ i, Try.prog.info? 5 = some i := by
  obtain ⟨i, h, _⟩ := info_parts (P := Try.prog) (e := 5) (z := .int .u8 0) (size := 1) (bytes := 1) (by kernel_rfl)
  exact ⟨i, h⟩
theorem eq_hash (a b : List UInt8) (ha : a.length = 32) (hb : b.length = 32) (w : World) : (Op.equalIn 10000 27 (.agg (B8 a).toArray) (.agg (B8 b).toArray)).run Try.prog w = .ok (decide (a = b)) w := by
  obtain ⟨i, hi⟩ := info_u8'
  exact eq_bytes Try.underlying27 Try.underlying5 hi (by kernel_rfl) 9998 a b ha hb w
theorem eq_zero (a : List UInt8) (ha : a.length = 32) (w : World) : (Op.equalIn 10000 27 (.agg (B8 a).toArray) (.agg #[.int .u8 0, .int .u8 0, .int .u8 0, .int .u8 0, .int .u8 0, .int .u8 0, .int .u8 0, .int .u8 0, .int .u8 0, .int .u8 0, .int .u8 0, .int .u8 0, .int .u8 0, .int .u8 0, .int .u8 0, .int .u8 0, .int .u8 0, .int .u8 0, .int .u8 0, .int .u8 0, .int .u8 0, .int .u8 0, .int .u8 0, .int .u8 0, .int .u8 0, .int .u8 0, .int .u8 0, .int .u8 0, .int .u8 0, .int .u8 0, .int .u8 0, .int .u8 0])).run Try.prog w = .ok (decide (a = zero32)) w := eq_hash a zero32 ha rfl w
end Go.Proofs.Ytakebmpnbdlcoaa
