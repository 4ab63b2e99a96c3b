/- Plain law of rows of sums: paths, on which side each step goes, what a path leads to. -/
import Derived.Test.YtakebmpnbdlcoaaTraceP
set_option linter.unusedSimpArgs false
set_option linter.unusedVariables false
namespace Go.Proofs.Ytakebmpnbdlcoaa
theorem split_le2 {n : Nat} (h : 2 ≤ n) : n ≤ 2 * splitN n := by
  have hn : n - 1 ≠ 0 := by omega
  have : n - 1 < 2 ^ (Nat.log2 (n - 1) + 1) := (Nat.log2_lt hn).1 (Nat.lt_succ_self _)
  unfold splitN
  rw [Nat.pow_succ] at this
  omega
/-- on which side a way goes, from the top on; true: to the right -/
def sidesF : Nat → Nat → Nat → List Bool
  | 0, _, _ => []
  | f + 1, n, i => if n ≤ 1 then [] else if i < splitN n then false :: sidesF f (splitN n) i else true :: sidesF f (n - splitN n) (i - splitN n)
def sidesS (n i : Nat) : List Bool := sidesF n n i
theorem sidesF_eq : ∀ (f g n i : Nat), n ≤ f → n ≤ g → sidesF f n i = sidesF g n i
  | 0, 0, _, _, _, _ => rfl
  | 0, g + 1, n, i, h, _ => by unfold sidesF; rw [if_pos (by omega)]
  | f + 1, 0, n, i, _, h => by unfold sidesF; rw [if_pos (by omega)]
  | f + 1, g + 1, n, i, h1, h2 => by
    unfold sidesF
    by_cases h : n ≤ 1
    · rw [if_pos h, if_pos h]
    · have hs1 := split_lt (n := n) (by omega)
      have hs2 := split_pos n
      rw [if_neg h, if_neg h, sidesF_eq f g _ i (by omega) (by omega), sidesF_eq f g (n - splitN n) _ (by omega) (by omega)]
theorem sidesS_one {n : Nat} (i : Nat) (h : n ≤ 1) : sidesS n i = [] := by
  unfold sidesS
  cases n with
  | zero => rfl
  | succ n => unfold sidesF; rw [if_pos h]
theorem sidesS_lo {n i : Nat} (h : 2 ≤ n) (hi : i < splitN n) : sidesS n i = false :: sidesS (splitN n) i := by
  have hs1 := split_lt (n := n) (by omega)
  obtain ⟨m, rfl⟩ : ∃ m, n = m + 1 := ⟨n - 1, by omega⟩
  unfold sidesS
  conv => lhs; unfold sidesF
  rw [if_neg (by omega), if_pos hi, sidesF_eq m _ _ _ (by omega) (Nat.le_refl _)]
theorem sidesS_hi {n i : Nat} (h : 2 ≤ n) (hi : splitN n ≤ i) : sidesS n i = true :: sidesS (n - splitN n) (i - splitN n) := by
  have hs1 := split_lt (n := n) (by omega)
  have hs2 := split_pos n
  obtain ⟨m, rfl⟩ : ∃ m, n = m + 1 := ⟨n - 1, by omega⟩
  unfold sidesS
  conv => lhs; unfold sidesF
  rw [if_neg (by omega), if_neg (by omega), sidesF_eq m _ _ _ (by omega) (Nat.le_refl _)]
theorem sides_len : ∀ (j n i : Nat), n ≤ 2 ^ j → (sidesS n i).length ≤ j
  | 0, n, i, h => by rw [sidesS_one i (by simpa using h)]; simp
  | j + 1, n, i, h => by
    by_cases h1 : n ≤ 1
    · rw [sidesS_one i h1]; simp
    · have hs1 := split_lt (n := n) (by omega)
      have hs2 := split_le2 (n := n) (by omega)
      have hk : splitN n ≤ 2 ^ j := by
        unfold splitN at hs1 ⊢
        have : Nat.log2 (n - 1) < j + 1 := (Nat.pow_lt_pow_iff_right (by decide : 1 < 2)).1 (Nat.lt_of_lt_of_le hs1 h)
        exact Nat.pow_le_pow_right (by decide) (by omega)
      by_cases h2 : i < splitN n
      · rw [sidesS_lo (by omega) h2, List.length_cons]
        have := sides_len j (splitN n) i hk
        omega
      · rw [sidesS_hi (by omega) (by omega), List.length_cons]
        have := sides_len j (n - splitN n) (i - splitN n) (by omega)
        omega
theorem sides_pos {n i : Nat} (h : 2 ≤ n) : (sidesS n i).length ≠ 0 := by
  by_cases h2 : i < splitN n
  · rw [sidesS_lo h h2]; simp
  · rw [sidesS_hi h (by omega)]; simp
/-- the sums beside a way up, from the leaf on -/
def pathF : Nat → List (List UInt8) → Nat → List (List UInt8)
  | 0, _, _ => []
  | f + 1, l, i => if l.length ≤ 1 then [] else if i < splitN l.length then pathF f (l.take (splitN l.length)) i ++ [commitS (l.drop (splitN l.length))]
      else pathF f (l.drop (splitN l.length)) (i - splitN l.length) ++ [commitS (l.take (splitN l.length))]
def pathS (l : List (List UInt8)) (i : Nat) : List (List UInt8) := pathF l.length l i
theorem pathF_eq : ∀ (f g : Nat) (l : List (List UInt8)) (i : Nat), l.length ≤ f → l.length ≤ g → pathF f l i = pathF g l i
  | 0, 0, _, _, _, _ => rfl
  | 0, g + 1, l, i, h, _ => by unfold pathF; rw [if_pos (by omega)]
  | f + 1, 0, l, i, _, h => by unfold pathF; rw [if_pos (by omega)]
  | f + 1, g + 1, l, i, h1, h2 => by
    unfold pathF
    by_cases h : l.length ≤ 1
    · rw [if_pos h, if_pos h]
    · have hs1 := split_lt (n := l.length) (by omega)
      have hs2 := split_pos l.length
      rw [if_neg h, if_neg h, pathF_eq f g _ i (by rw [List.length_take]; omega) (by rw [List.length_take]; omega), pathF_eq f g (l.drop _) _ (by rw [List.length_drop]; omega) (by rw [List.length_drop]; omega)]
theorem pathS_one {l : List (List UInt8)} (i : Nat) (h : l.length ≤ 1) : pathS l i = [] := by
  unfold pathS
  cases hl : l.length with
  | zero => rfl
  | succ n => unfold pathF; rw [if_pos h]
theorem pathS_lo {l : List (List UInt8)} {i : Nat} (h : 2 ≤ l.length) (hi : i < splitN l.length) : pathS l i = pathS (l.take (splitN l.length)) i ++ [commitS (l.drop (splitN l.length))] := by
  have hs1 := split_lt (n := l.length) (by omega)
  obtain ⟨m, hm⟩ : ∃ m, l.length = m + 1 := ⟨l.length - 1, by omega⟩
  unfold pathS
  conv => lhs; rw [hm]; unfold pathF
  rw [if_neg (by omega), if_pos hi, pathF_eq m _ _ _ (by rw [List.length_take]; omega) (Nat.le_refl _)]
theorem pathS_hi {l : List (List UInt8)} {i : Nat} (h : 2 ≤ l.length) (hi : splitN l.length ≤ i) : pathS l i = pathS (l.drop (splitN l.length)) (i - splitN l.length) ++ [commitS (l.take (splitN l.length))] := by
  have hs1 := split_lt (n := l.length) (by omega)
  have hs2 := split_pos l.length
  obtain ⟨m, hm⟩ : ∃ m, l.length = m + 1 := ⟨l.length - 1, by omega⟩
  unfold pathS
  conv => lhs; rw [hm]; unfold pathF
  rw [if_neg (by omega), if_neg (by omega), pathF_eq m _ _ _ (by rw [List.length_drop]; omega) (Nat.le_refl _)]
/-- what a path leads to -/
def foldUp : List Bool → List (List UInt8) → List UInt8 → List UInt8
  | s :: ss, x :: xs, h => foldUp ss xs (if s then twoS x h else twoS h x)
  | _, _, h => h
theorem foldUp_snoc : ∀ (ss : List Bool) (xs : List (List UInt8)) (s : Bool) (x h : List UInt8), ss.length = xs.length → foldUp (ss ++ [s]) (xs ++ [x]) h = if s then twoS x (foldUp ss xs h) else twoS (foldUp ss xs h) x
  | [], [], s, x, h, _ => by cases s <;> rfl
  | a :: ss, [], s, x, h, e => by simp at e
  | [], b :: xs, s, x, h, e => by simp at e
  | a :: ss, b :: xs, s, x, h, e => by
    simp only [List.cons_append, foldUp]
    exact foldUp_snoc ss xs s x _ (by simpa using e)
theorem path_sides : ∀ (m : Nat) (l : List (List UInt8)) (i : Nat), l.length ≤ m → (pathS l i).length = (sidesS l.length i).length
  | 0, l, i, h => by rw [pathS_one i (by omega), sidesS_one i (by omega)]; rfl
  | m + 1, l, i, h => by
    by_cases h1 : l.length ≤ 1
    · rw [pathS_one i h1, sidesS_one i h1]; rfl
    · have hs1 := split_lt (n := l.length) (by omega)
      have hs2 := split_pos l.length
      by_cases h2 : i < splitN l.length
      · have ih := path_sides m (l.take (splitN l.length)) i (by rw [List.length_take]; omega)
        rw [List.length_take, Nat.min_eq_left (by omega)] at ih
        rw [pathS_lo (by omega) h2, sidesS_lo (by omega) h2, List.length_append, ih]
        simp
      · have ih := path_sides m (l.drop (splitN l.length)) (i - splitN l.length) (by rw [List.length_drop]; omega)
        rw [List.length_drop] at ih
        rw [pathS_hi (by omega) (by omega), sidesS_hi (by omega) (by omega), List.length_append, ih]
        simp
theorem path_leads : ∀ (m : Nat) (l : List (List UInt8)) (i : Nat) (x : List UInt8), l.length ≤ m → l[i]? = some x → foldUp (sidesS l.length i).reverse (pathS l i) x = commitS l
  | 0, l, i, x, h, hx => by
    obtain rfl : l = [] := List.eq_nil_of_length_eq_zero (by omega)
    simp at hx
  | m + 1, l, i, x, h, hx => by
    by_cases h1 : l.length ≤ 1
    · rw [pathS_one i h1, sidesS_one i h1]
      obtain ⟨y, rfl⟩ : ∃ y, l = [y] := List.length_eq_one_iff.1 (by
        have := (List.getElem?_eq_some_iff.1 hx).1
        omega)
      obtain rfl : i = 0 := by have := (List.getElem?_eq_some_iff.1 hx).1; simpa using this
      simp at hx
      subst hx
      rfl
    · have hs1 := split_lt (n := l.length) (by omega)
      have hs2 := split_pos l.length
      have hps := path_sides l.length l i (Nat.le_refl _)
      by_cases h2 : i < splitN l.length
      · have ih := path_leads m (l.take (splitN l.length)) i x (by rw [List.length_take]; omega) (by rw [List.getElem?_take, if_pos h2]; exact hx)
        rw [List.length_take, Nat.min_eq_left (by omega)] at ih
        rw [pathS_lo (by omega) h2, sidesS_lo (by omega) h2] at hps ⊢
        rw [List.reverse_cons, foldUp_snoc _ _ _ _ _ (by simp at hps ⊢; omega), ih, commitS_step l (by omega)]
        simp
      · have ih := path_leads m (l.drop (splitN l.length)) (i - splitN l.length) x (by rw [List.length_drop]; omega) (by rw [List.getElem?_drop, show splitN l.length + (i - splitN l.length) = i from by omega]; exact hx)
        rw [List.length_drop] at ih
        rw [pathS_hi (by omega) (by omega), sidesS_hi (by omega) (by omega)] at hps ⊢
        rw [List.reverse_cons, foldUp_snoc _ _ _ _ _ (by simp at hps ⊢; omega), ih, commitS_step l (by omega)]
        simp
theorem path_all : ∀ (m : Nat) (l : List (List UInt8)) (i : Nat), l.length ≤ m → (∀ x ∈ l, x.length = 32) → ∀ x ∈ pathS l i, x.length = 32
  | 0, l, i, h, hl => by rw [pathS_one i (by omega)]; simp
  | m + 1, l, i, h, hl => by
    by_cases h1 : l.length ≤ 1
    · rw [pathS_one i h1]; simp
    · have hs1 := split_lt (n := l.length) (by omega)
      have hs2 := split_pos l.length
      have ht : ∀ k, ∀ x ∈ l.take k, x.length = 32 := fun k x hx => hl x (List.mem_of_mem_take hx)
      have hd : ∀ k, ∀ x ∈ l.drop k, x.length = 32 := fun k x hx => hl x (List.mem_of_mem_drop hx)
      by_cases h2 : i < splitN l.length
      · have ih := path_all m (l.take (splitN l.length)) i (by rw [List.length_take]; omega) (ht _)
        rw [pathS_lo (by omega) h2]
        intro x hx
        rcases List.mem_append.1 hx with hx | hx
        · exact ih x hx
        · simp at hx
          rw [hx]
          exact commitS_len _ (hd _)
      · have ih := path_all m (l.drop (splitN l.length)) (i - splitN l.length) (by rw [List.length_drop]; omega) (hd _)
        rw [pathS_hi (by omega) (by omega)]
        intro x hx
        rcases List.mem_append.1 hx with hx | hx
        · exact ih x hx
        · simp at hx
          rw [hx]
          exact commitS_len _ (ht _)
theorem foldUp_len : ∀ (ss : List Bool) (xs : List (List UInt8)) (h : List UInt8), h.length = 32 → (foldUp ss xs h).length = 32
  | [], xs, h, hh => by unfold foldUp; exact hh
  | s :: ss, [], h, hh => hh
  | s :: ss, x :: xs, h, hh => by
    unfold foldUp
    exact foldUp_len ss xs _ (by split <;> exact twoS_len _ _)
/-- is a sum verified at a place? -/
def verS (root : List UInt8) (n i : Int) (h : List UInt8) (path : List (List UInt8)) : Bool :=
  decide (1 ≤ n ∧ n ≤ 1073741824 ∧ 0 ≤ i ∧ i < n ∧ path.length = (sidesS n.toNat i.toNat).length ∧ foldUp (sidesS n.toNat i.toNat).reverse path h = root)
end Go.Proofs.Ytakebmpnbdlcoaa
