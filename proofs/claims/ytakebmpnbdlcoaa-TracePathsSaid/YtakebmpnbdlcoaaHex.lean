/- Walks: sha.Hex, capstanref2.Hex. -/
import Derived.Test.YtakebmpnbdlcoaaEqH
import Derived.Test.YtakebmpnbdlcoaaCat
import Derived.Test.YtakebmpnbdlcoaaShaSpec
import Derived.Deep.Cut
set_option linter.unusedSimpArgs false
set_option linter.unusedVariables false
namespace Go.Proofs.Ytakebmpnbdlcoaa
open Go.RowKit
set_option maxRecDepth 100000
theorem run_index_b {P : Program} {t e : TypeId} {n : Nat} {i0 : TypeInfo} (ht : P.underlying t = some (.array n e)) (he : P.underlying e = some (.int .u8)) (hi : P.info? e = some i0) (hs : i0.size = 1) (l : List UInt8) (k : Nat) (hk : k < n) (y : UInt8) (hy : l[k]? = some y) (w : World) :
    (Instr.index t (.agg (B8 l).toArray) (.int .i64 (k : Int))).run P w = .ok (.int .u8 (y.toNat : Int)) w := by
  have hp : P.plainKey e = true := by unfold Program.plainKey; rw [he]
  have pa := run_part_plain (P := P) w hp (xs := (B8 l).toArray) (off := k) (v := .int .u8 (y.toNat : Int)) (by simp [B8, b8, hy])
  have hlt : (0 : Int) ≤ (k : Int) ∧ (k : Int) < (n : Int) := by omega
  simp [Instr.index, run_underlying ht, asIntOf, sizeOf, typeInfo, hi, hs, hk, pa]
theorem dig_at (d : Nat) (h : d < 16) : ((⟨#[48, 49, 50, 51, 52, 53, 54, 55, 56, 57, 97, 98, 99, 100, 101, 102]⟩ : ByteArray)[d]'h) = dig d := by
  match d, h with
  | 0, _ => rfl
  | 1, _ => rfl
  | 2, _ => rfl
  | 3, _ => rfl
  | 4, _ => rfl
  | 5, _ => rfl
  | 6, _ => rfl
  | 7, _ => rfl
  | 8, _ => rfl
  | 9, _ => rfl
  | 10, _ => rfl
  | 11, _ => rfl
  | 12, _ => rfl
  | 13, _ => rfl
  | 14, _ => rfl
  | 15, _ => rfl
  | n + 16, h => exact absurd h (by omega)
theorem digit_at {P : Program} {t : TypeId} (ht : P.underlying t = some .string) (d : Nat) (h : d < 16) (w : World) :
    (Instr.index t (.string ⟨#[48, 49, 50, 51, 52, 53, 54, 55, 56, 57, 97, 98, 99, 100, 101, 102]⟩) (.int .u8 (d : Int))).run P w = .ok (.int .u8 ((dig d).toNat : Int)) w := by
  rw [run_index_string w t _ .u8 (d : Int) ht, dif_pos ⟨by omega, by show (d : Int) < 16; omega⟩]
  simp only [Int.toNat_natCast]
  rw [dig_at d h]
theorem hexS_snoc (h : List UInt8) (k : Nat) (y : UInt8) (hy : h[k]? = some y) : hexS (h.take (k + 1)) = hexS (h.take k) ++ [dig (y.toNat / 16), dig (y.toNat % 16)] := by
  rw [List.take_add_one, hy, hexS, List.flatMap_append]
  rfl
end Go.Proofs.Ytakebmpnbdlcoaa
