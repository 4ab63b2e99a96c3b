/- Plain law of GameExpires. -/
import Derived.Test.YtaaiembhdfgkjaaGameX
import Derived.Test.YtaaiembhdfgkjaaHashes
import Derived.Test.YtaaiembhdfgkjaaGameK
namespace Go.Proofs.Ytaaiembhdfgkjaa
open Go.RowKit
structure EInv (m : Nat) (t : Int) (d : GD) : Prop where
  len : GLen d
  lo : 0 ≤ d.lo
  le : d.lo ≤ d.hi
  hi : d.hi ≤ 2048
  turn : d.turn = 1 ∨ d.turn = 2 ∨ d.turn = 3
  moves : d.moves = m
  limit : d.limit = t + 3
  t0 : 0 ≤ t
  t1 : t ≤ 3 * m
theorem turnD_turn (d : GD) : (turnD d).turn = 1 ∨ (turnD d).turn = 2 ∨ (turnD d).turn = 3 := by
  unfold turnD
  dsimp only
  split
  · exact .inr (.inr rfl)
  · exact .inl rfl
theorem einv_zero (N : Nat) (h1 : N ≤ 2048) (a b : List UInt8) (ha : a.length = 32) (hb : b.length = 32) : EInv 0 0 (turnD (startD N a b 0)) := by
  refine ⟨⟨ha, hb, rfl⟩, ?_, ?_, ?_, ?_, rfl, rfl, by omega, by omega⟩
  · show (0 : Int) ≤ 0; omega
  · show (0 : Int) ≤ N; omega
  · show (N : Int) ≤ 2048; omega
  · exact turnD_turn _
def saidE (d : GD) (y : List UInt8) (t : Int) : GD := movedD { d with mid := y, turn := 2 } t
def chosenE (d : GD) (r : Bool) (t : Int) : GD := movedD (turnD (halfD d r)) t
theorem einv_say {m : Nat} {t : Int} {d : GD} (h : EInv m t d) (hm : m ≤ 14) (h1 : d.turn = 1) (x : Int) (x0 : 0 ≤ x) (x3 : x ≤ 3) (y : List UInt8) (hy : y.length = 32) : sayD d y (t + x) = (saidE d y (t + x), 0) ∧ EInv (m + 1) (t + x) (saidE d y (t + x)) := by
  have hl := h.limit
  have h2 := h.t0
  have h3 := h.t1
  have h0 : mayE d 1 (t + x) = 0 := by
    unfold mayE clockB
    rw [if_neg (by omega), if_neg (by omega), if_neg (by omega), if_neg (by omega)]
  refine ⟨by unfold sayD; rw [if_pos h0]; rfl, ⟨⟨h.len.1, h.len.2, hy⟩, h.lo, h.le, h.hi, .inr (.inl rfl), ?_, rfl, by omega, by omega⟩⟩
  show d.moves + 1 = ((m + 1 : Nat) : Int)
  have := h.moves
  omega
theorem einv_choose {m : Nat} {t : Int} {d : GD} (h : EInv m t d) (hm : m ≤ 14) (h1 : d.turn = 2) (x : Int) (x0 : 0 ≤ x) (x3 : x ≤ 3) (r : Bool) : chooseD d r (t + x) = (chosenE d r (t + x), 0) ∧ EInv (m + 1) (t + x) (chosenE d r (t + x)) := by
  have hl := h.limit
  have h2 := h.t0
  have h3 := h.t1
  have h4 := h.lo
  have h5 := h.le
  have h6 := h.hi
  have h0 : mayE d 2 (t + x) = 0 := by
    unfold mayE clockB
    rw [if_neg (by omega), if_neg (by omega), if_neg (by omega), if_neg (by omega)]
  have hmv : d.moves + 1 = ((m + 1 : Nat) : Int) := by have := h.moves; omega
  refine ⟨by unfold chooseD; rw [if_pos h0]; rfl, ?_⟩
  cases r
  · refine ⟨⟨h.len.1, h.len.3, rfl⟩, h4, ?_, ?_, ?_, hmv, rfl, by omega, by omega⟩
    · show d.lo ≤ d.lo + (d.hi - d.lo) / 2; omega
    · show d.lo + (d.hi - d.lo) / 2 ≤ 2048; omega
    · exact turnD_turn _
  · refine ⟨⟨h.len.3, h.len.2, rfl⟩, ?_, ?_, h6, ?_, hmv, rfl, by omega, by omega⟩
    · show 0 ≤ d.lo + (d.hi - d.lo) / 2; omega
    · show d.lo + (d.hi - d.lo) / 2 ≤ d.hi; omega
    · exact turnD_turn _
theorem einv_early {m : Nat} {t : Int} {d : GD} (h : EInv m t d) (hm : m ≤ 14) : expireD d d.limit = (d, 23) := by
  have hl := h.limit
  have h2 := h.t0
  have h3 := h.t1
  have h4 := h.turn
  unfold expireD clockB
  rw [if_neg (by omega), if_neg (by omega), if_pos (by omega)]
theorem einv_late {m : Nat} {t : Int} {d : GD} (h : EInv m t d) (hm : m ≤ 14) : expireD d (d.limit + 1) = (overD d (d.turn == 2), 0) := by
  have hl := h.limit
  have h2 := h.t0
  have h3 := h.t1
  have h4 := h.turn
  unfold expireD clockB
  rw [if_neg (by omega), if_neg (by omega), if_neg (by omega)]
end Go.Proofs.Ytaaiembhdfgkjaa
