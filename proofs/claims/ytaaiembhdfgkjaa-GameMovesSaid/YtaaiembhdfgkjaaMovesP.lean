/- Plain law of GameMoves: what is left is halved each time. -/
import Derived.Test.YtaaiembhdfgkjaaGameC
import Derived.Test.YtaaiembhdfgkjaaRootS
namespace Go.Proofs.Ytaaiembhdfgkjaa
open Go.RowKit
theorem halve_zero (m : Nat) : halve (List.replicate (2 * m) zero32) = List.replicate m zero32 := by
  unfold halve
  refine List.ext_getElem? fun k => ?_
  rw [List.getElem?_map, List.length_replicate, List.getElem?_replicate]
  by_cases hk : k < m
  · rw [List.getElem?_range (by omega), if_pos hk]
    have e : ∀ j, (List.replicate (2 * m) zero32).getD j zero32 = zero32 := by
      intro j
      rw [List.getD, List.getElem?_replicate]
      split <;> rfl
    simp only [Option.map_some, e]
    rfl
  · rw [if_neg hk, List.getElem?_eq_none (by simp; omega)]
    rfl
theorem root_zero : ∀ j, rootJ j (List.replicate (2 ^ j) zero32) = zero32
  | 0 => rfl
  | j + 1 => by
    rw [Nat.pow_succ, Nat.mul_comm, rootJ, halve_zero]
    exact root_zero j
theorem refRoot_nil (w : World) : Calls Try.prog 29 #[.slice none 0 0] w fun e w' => e = .returned (hv zero32) ∧ Below w.heap.size w w' := by
  have := refRoot_of (.slice none 0 0) (List.replicate 256 zero32) List.length_replicate (by intro x hx; rw [List.eq_of_mem_replicate hx]; rfl) w (fun W _ => leaves_nil W)
  rw [show (256 : Nat) = 2 ^ 8 from rfl, root_zero] at this
  exact this
/-- the game behind k halvings -/
structure MInv (N k : Nat) (d : GD) : Prop where
  len : GLen d
  lo : 0 ≤ d.lo
  lt : d.lo < d.hi
  hi : d.hi ≤ N
  left : (d.hi - d.lo - 1) * 2 ^ k < N
  turn : d.turn = if d.hi - d.lo = 1 then 3 else 1
  moves : d.moves = 2 * k
  limit : d.limit = 3
theorem minv_zero (N : Nat) (h1 : 1 ≤ N) (a b : List UInt8) (ha : a.length = 32) (hb : b.length = 32) : MInv N 0 (turnD (startD N a b 0)) := by
  refine ⟨⟨ha, hb, rfl⟩, ?_, ?_, ?_, ?_, ?_, ?_, ?_⟩
  · show (0 : Int) ≤ 0; omega
  · show (0 : Int) < N; omega
  · show (N : Int) ≤ N; omega
  · show ((N : Int) - 0 - 1) * 2 ^ 0 < N; simp; omega
  · rfl
  · rfl
  · rfl
def midG (d : GD) (m : List UInt8) : GD := movedD { d with mid := m, turn := 2 } 0
theorem minv_say {N k : Nat} {d : GD} (h : MInv N k d) (h3 : d.turn ≠ 3) (m : List UInt8) : sayD d m 0 = (midG d m, 0) := by
  have ht : d.turn = 1 := by
    have := h.turn
    split at this
    · exact absurd this h3
    · exact this
  have h0 : mayE d 1 0 = 0 := by
    unfold mayE clockB
    rw [if_neg (by decide), if_neg (by omega), if_neg (by omega), if_neg (by rw [h.limit]; omega)]
  unfold sayD
  rw [if_pos h0]
  rfl
def nextG (d : GD) (m : List UInt8) (r : Bool) : GD := movedD (turnD (halfD (midG d m) r)) 0
theorem minv_choose (d : GD) (m : List UInt8) (r : Bool) : chooseD (midG d m) r 0 = (nextG d m r, 0) := by
  have h0 : mayE (midG d m) 2 0 = 0 := by
    unfold mayE clockB
    rw [if_neg (by decide), if_neg (by show ¬ (2 : Int) = 4; decide), if_neg (by show ¬ (2 : Int) ≠ 2; decide), if_neg (by show ¬ ((0 : Int) + 3 < 0); decide)]
  unfold chooseD
  rw [if_pos h0]
  rfl
theorem minv_next {N k : Nat} {d : GD} (h : MInv N k d) (h3 : d.turn ≠ 3) (m : List UInt8) (hm : m.length = 32) (r : Bool) : MInv N (k + 1) (nextG d m r) ∧ 2 ≤ d.hi - d.lo ∧ ((nextG d m r).hi - (nextG d m r).lo = (d.hi - d.lo) / 2 ∨ (nextG d m r).hi - (nextG d m r).lo = (d.hi - d.lo) - (d.hi - d.lo) / 2) := by
  have h2 : 2 ≤ d.hi - d.lo := by
    have h1 := h.lt
    have := h.turn
    split at this
    · exact absurd this h3
    · omega
  have hlo := h.lo
  have hhi := h.hi
  have hl := h.left
  have hp : (0 : Int) < 2 ^ k := Int.pow_pos (by omega)
  obtain ⟨s, hs⟩ : ∃ s, s = d.hi - d.lo := ⟨_, rfl⟩
  rw [← hs] at h2 hl
  have key : ∀ s' : Int, 1 ≤ s' → 2 * (s' - 1) ≤ s - 1 → (s' - 1) * 2 ^ (k + 1) < N := by
    intro s' h1 hle
    have e1 : (s' - 1) * 2 ^ (k + 1) = (2 * (s' - 1)) * 2 ^ k := by rw [Int.pow_succ, Int.mul_comm 2 (s' - 1), Int.mul_assoc, Int.mul_comm 2]
    rw [e1]
    exact Int.lt_of_le_of_lt (Int.mul_le_mul_of_nonneg_right hle (Int.le_of_lt hp)) hl
  cases r
  · refine ⟨⟨⟨h.len.1, hm, rfl⟩, ?_, ?_, ?_, ?_, rfl, ?_, rfl⟩, by omega, ?_⟩
    · show 0 ≤ d.lo; omega
    · show d.lo < d.lo + (d.hi - d.lo) / 2; omega
    · show d.lo + (d.hi - d.lo) / 2 ≤ N; omega
    · show (d.lo + (d.hi - d.lo) / 2 - d.lo - 1) * 2 ^ (k + 1) < N
      exact key (d.lo + (d.hi - d.lo) / 2 - d.lo) (by omega) (by omega)
    · show d.moves + 1 + 1 = 2 * ((k + 1 : Nat) : Int); have := h.moves; omega
    · left; show d.lo + (d.hi - d.lo) / 2 - d.lo = (d.hi - d.lo) / 2; omega
  · refine ⟨⟨⟨hm, h.len.2, rfl⟩, ?_, ?_, ?_, ?_, rfl, ?_, rfl⟩, by omega, ?_⟩
    · show 0 ≤ d.lo + (d.hi - d.lo) / 2; omega
    · show d.lo + (d.hi - d.lo) / 2 < d.hi; omega
    · show d.hi ≤ N; omega
    · show (d.hi - (d.lo + (d.hi - d.lo) / 2) - 1) * 2 ^ (k + 1) < N
      exact key (d.hi - (d.lo + (d.hi - d.lo) / 2)) (by omega) (by omega)
    · show d.moves + 1 + 1 = 2 * ((k + 1 : Nat) : Int); have := h.moves; omega
    · right; show d.hi - (d.lo + (d.hi - d.lo) / 2) = d.hi - d.lo - (d.hi - d.lo) / 2; omega
/-- as long as something is left to be halved, there are levels left -/
theorem minv_more {N k : Nat} {d : GD} (h : MInv N k d) (h2 : 2 ≤ d.hi - d.lo) : 2 ^ k < N := by
  have h1 := h.left
  have hp : (0 : Int) < 2 ^ k := Int.pow_pos (by omega)
  have : (1 : Int) * 2 ^ k ≤ (d.hi - d.lo - 1) * 2 ^ k := Int.mul_le_mul_of_nonneg_right (by omega) (Int.le_of_lt hp)
  have e : ((2 ^ k : Nat) : Int) = 2 ^ k := by simp
  omega
end Go.Proofs.Ytaaiembhdfgkjaa
