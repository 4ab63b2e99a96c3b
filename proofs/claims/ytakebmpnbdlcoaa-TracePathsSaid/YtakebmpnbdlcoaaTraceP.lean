/- Plain law of rows of sums: where a row is split, its one sum. -/
import Derived.Test.YtakebmpnbdlcoaaGame
import Derived.Test.YtakebmpnbdlcoaaShaSpec
set_option linter.unusedSimpArgs false
set_option linter.unusedVariables false
namespace Go.Proofs.Ytakebmpnbdlcoaa
/-- the greatest power of two that is less than n (n is two at least) -/
def splitN (n : Nat) : Nat := 2 ^ Nat.log2 (n - 1)
theorem split_of {n j : Nat} (h1 : 2 ^ j < n) (h2 : n ≤ 2 ^ (j + 1)) : splitN n = 2 ^ j := by
  have hp : 0 < 2 ^ j := Nat.two_pow_pos j
  have hn : n - 1 ≠ 0 := by omega
  have a1 : j ≤ Nat.log2 (n - 1) := (Nat.le_log2 hn).2 (by omega)
  have a2 : Nat.log2 (n - 1) < j + 1 := (Nat.log2_lt hn).2 (by omega)
  unfold splitN
  rw [show Nat.log2 (n - 1) = j from by omega]
theorem split_pos (n : Nat) : 1 ≤ splitN n := Nat.one_le_two_pow
theorem split_lt {n : Nat} (h : 2 ≤ n) : splitN n < n := by
  have hn : n - 1 ≠ 0 := by omega
  have : 2 ^ Nat.log2 (n - 1) ≤ n - 1 := Nat.log2_self_le hn
  unfold splitN
  omega
/-- the one sum of sums -/
def commitF : Nat → List (List UInt8) → List UInt8
  | 0, _ => zero32
  | f + 1, l => match l with
    | [] => zero32
    | [x] => x
    | x :: y :: r => twoS (commitF f ((x :: y :: r).take (splitN (r.length + 2)))) (commitF f ((x :: y :: r).drop (splitN (r.length + 2))))
def commitS (l : List (List UInt8)) : List UInt8 := commitF l.length l
theorem commitF_len : ∀ (f : Nat) (l : List (List UInt8)), (∀ x ∈ l, x.length = 32) → (commitF f l).length = 32
  | 0, l, h => rfl
  | f + 1, [], h => rfl
  | f + 1, [x], h => h x (by simp)
  | f + 1, x :: y :: r, h => twoS_len _ _
theorem commitF_cons (f : Nat) (x y : List UInt8) (r : List (List UInt8)) : commitF (f + 1) (x :: y :: r) = twoS (commitF f ((x :: y :: r).take (splitN (r.length + 2)))) (commitF f ((x :: y :: r).drop (splitN (r.length + 2)))) := rfl
theorem commitF_eq : ∀ (f g : Nat) (l : List (List UInt8)), l.length ≤ f → l.length ≤ g → commitF f l = commitF g l
  | 0, 0, _, _, _ => rfl
  | 0, g + 1, [], _, _ => rfl
  | f + 1, 0, [], _, _ => rfl
  | f + 1, g + 1, [], _, _ => rfl
  | f + 1, g + 1, [x], _, _ => rfl
  | f + 1, g + 1, x :: y :: r, h1, h2 => by
    have hs1 := split_lt (n := r.length + 2) (by omega)
    have hs2 := split_pos (r.length + 2)
    simp only [List.length_cons] at h1 h2
    rw [commitF_cons, commitF_cons]
    rw [commitF_eq f g _ (by simp only [List.length_take, List.length_cons]; omega) (by simp only [List.length_take, List.length_cons]; omega)]
    rw [commitF_eq f g _ (by simp only [List.length_drop, List.length_cons]; omega) (by simp only [List.length_drop, List.length_cons]; omega)]
theorem commitS_step (l : List (List UInt8)) (h : 2 ≤ l.length) : commitS l = twoS (commitS (l.take (splitN l.length))) (commitS (l.drop (splitN l.length))) := by
  rcases l with _ | ⟨x, _ | ⟨y, r⟩⟩
  · simp at h
  · simp at h
  · have hs1 := split_lt (n := r.length + 2) (by omega)
    have hs2 := split_pos (r.length + 2)
    show commitF (r.length + 1 + 1) (x :: y :: r) = _
    rw [commitF_cons]
    unfold commitS
    rw [commitF_eq (r.length + 1) _ _ (by simp only [List.length_take, List.length_cons]; omega) (Nat.le_refl _), commitF_eq (r.length + 1) _ ((x :: y :: r).drop _) (by simp only [List.length_drop, List.length_cons]; omega) (Nat.le_refl _)]
    rfl
theorem commitS_len (l : List (List UInt8)) (h : ∀ x ∈ l, x.length = 32) : (commitS l).length = 32 := commitF_len _ l h
theorem H8_app_ (a b : List (List UInt8)) : H8 (a ++ b) = H8 a ++ H8 b := by simp [H8]
theorem commitS_nil : commitS [] = zero32 := rfl
theorem commitS_one (x : List UInt8) : commitS [x] = x := rfl
end Go.Proofs.Ytakebmpnbdlcoaa
