/- Walks: two games held against each other: slices.Equal at sums, game.Same. -/
import Derived.Test.YtaaiembhdfgkjaaGameX
import Derived.Test.YtaaiembhdfgkjaaEqS
namespace Go.Proofs.Ytaaiembhdfgkjaa
open Go.RowKit
theorem H8_at : ∀ (hs : List (List UInt8)) (_ : ∀ h ∈ hs, h.length = 32) (i : Nat) (h : List UInt8) (_ : hs[i]? = some h) (j : Nat) (v : Value) (_ : (B8 h)[j]? = some v), (H8 hs)[i * 32 + j]? = some v
  | [], _, i, h, hi, j, v, hv => by simp at hi
  | a :: hs, hl, 0, h, hi, j, v, hv => by
    simp at hi
    subst hi
    have hj : j < (B8 a).length := (List.getElem?_eq_some_iff.1 hv).1
    rw [H8, List.flatMap_cons, Nat.zero_mul, Nat.zero_add, List.getElem?_append_left hj]
    exact hv
  | a :: hs, hl, i + 1, h, hi, j, v, hv => by
    have ih := H8_at hs (fun h hh => hl h (by simp [hh])) i h (by simpa using hi) j v hv
    have ha : (B8 a).length = 32 := by rw [B8_len]; exact hl a (by simp)
    rw [H8, List.flatMap_cons, List.getElem?_append_right (by omega), ha, show (i + 1) * 32 + j - 32 = i * 32 + j from by omega]
    exact ih
theorem Sl.sum_ {w : World} {b o n : Nat} {hs : List (List UInt8)} (h : Sl w 32 (some ⟨b, o, none⟩) n (H8 hs)) (hl : ∀ h ∈ hs, h.length = 32) (i : Nat) (x : List UInt8) (hi : hs[i]? = some x) : w.rangeAt b (o + i * 32) (B8 x) := fun j v hv => by
  rw [Nat.add_assoc]
  exact h.cell (H8_at hs hl i x hi j v hv)
theorem H8_len_ (hs : List (List UInt8)) (h : ∀ x ∈ hs, x.length = 32) : (H8 hs).length = hs.length * 32 := by
  induction hs with
  | nil => rfl
  | cons a hs ih =>
    have := ih (fun x hx => h x (by simp [hx]))
    have h1 := h a (by simp)
    simp only [H8, List.flatMap_cons, List.length_append, B8_len, List.length_cons] at this ⊢
    omega
set_option maxRecDepth 100000 in
set_option maxHeartbeats 1000000 in
theorem equal_H (A : Option Addr) (n c : Nat) (hs : List (List UInt8)) (A2 : Option Addr) (n2 c2 : Nat) (hs2 : List (List UInt8)) (w : World) (h : Sl w 32 A n (H8 hs)) (hl : ∀ x ∈ hs, x.length = 32) (h2 : Sl w 32 A2 n2 (H8 hs2)) (hl2 : ∀ x ∈ hs2, x.length = 32) (hn : n ≤ 4194304) (hn2 : n2 ≤ 4194304) :
    Calls Try.prog 52 #[.slice A n c, .slice A2 n2 c2] w (RB (decide (hs = hs2)) w) := by
  have ln : hs.length = n := by have := h.len; rw [H8_len_ hs hl] at this; omega
  have ln2 : hs2.length = n2 := by have := h2.len; rw [H8_len_ hs2 hl2] at this; omega
  have LN := Lib.hid ln
  have LN2 := Lib.hid ln2
  have HL := Lib.hid hl
  have HL2 := Lib.hid hl2
  clear ln ln2 hl hl2
  by_cases hnn : n = n2
  · subst hnn
    go_enter Try.func52, Try.ntmps52
    go_wp2_with fail
    go_loopw [13] (fun i wr => ∃ k : Nat, i = .int .i64 k ∧ k ≤ n ∧ (hs.take k = hs2.take k) ∧ Below w.heap.size w wr) (fun i _ => n - (intOf i).toNat)
    case atStart => exact ⟨0, rfl, Nat.zero_le _, rfl, Below.refl _ _⟩
    case round =>
      obtain ⟨k, rfl, hk, hpre, hb⟩ := hrel
      have HP := Lib.hid hpre
      clear hpre
      by_cases hlt : k < n
      · have hsw := h.to hb
        have h2w := h2.to hb
        obtain ⟨b1, o1, rfl, hb1⟩ := hsw.some_ (by omega)
        obtain ⟨b2, o2, rfl, hb2⟩ := h2w.some_ (by omega)
        obtain ⟨x, hx⟩ : ∃ x, hs[k]? = some x := ⟨_, List.getElem?_eq_getElem (by rw [LN.out]; exact hlt)⟩
        obtain ⟨y, hy⟩ : ∃ y, hs2[k]? = some y := ⟨_, List.getElem?_eq_getElem (by rw [LN2.out]; exact hlt)⟩
        have xl := HL.out x (List.mem_of_getElem? hx)
        have yl := HL2.out y (List.mem_of_getElem? hy)
        have rx : ∀ w', RBel wr.drew w' → w'.rangeAt b1 (o1 + k * 32) (B8 x) := fun w' hw' => (hsw.drew.to hw').sum_ HL.out k x hx
        have ry : ∀ w', RBel wr.drew w' → w'.rangeAt b2 (o2 + k * 32) (B8 y) := fun w' hw' => (h2w.drew.to hw').sum_ HL2.out k y hy
        have eh := eq_hash x y xl yl
        have IX := info_hash xl
        have IY := info_hash yl
        have HX := Lib.hid hx
        have HY := Lib.hid hy
        have fin := hb.drew
        have t1 : (k : Int) < (n : Int) := by omega
        clear hx hy hsw h2w
        by_cases hxy : x = y
        · rw [show decide (x = y) = true from by simp [hxy]] at eh
          have HXY := Lib.hid hxy
          clear xl yl hxy
          go_wp2_with fail
          refine wp_region_C [(0, true), (1, true), (2, true), (3, true), (4, true), (5, false), (6, false), (7, false), (8, false)] RBel (by kernel_rfl) (by kernel_rfl) (by kernel_rfl) (by decide) RBel.refl_ RBel.trans_ (by intro d v c a w h; cases d <;> exact h) ?_
          generalize wr.drew = wd at *
          repeat (first | (refine wpC_quiet (v := ?_) rfl (by rfl) ?_ ?_; rotate_left; (· (intro w' hw'; go_simp; try with_reducible rfl)); simp only [Act.put, List.setIfInBounds_toArray, List.set_cons_zero, List.set_cons_succ]) | (refine wpC_val (v := ?_) (RBel.refl_) rfl (by rfl) ?_ ?_; rotate_left; (· (go_simp; try with_reducible rfl)); simp only [Act.put, List.setIfInBounds_toArray, List.set_cons_zero, List.set_cons_succ]) | (refine wpC_skip rfl (by rfl) ?_; simp only [Act.put, List.setIfInBounds_toArray, List.set_cons_zero, List.set_cons_succ]) | (refine wpC_skip' (RBel.refl_) rfl (by rfl) ?_; simp only [Act.put, List.setIfInBounds_toArray, List.set_cons_zero, List.set_cons_succ]))
          refine wpC_load rfl (by rfl) _ _ rfl b1 (o1 + k * 32) rfl (B8 x) _ rx Try.underlying26 rfl IX ?_
          simp only [Act.put, List.setIfInBounds_toArray, List.set_cons_zero, List.set_cons_succ]
          repeat (first | (refine wpC_quiet (v := ?_) rfl (by rfl) ?_ ?_; rotate_left; (· (intro w' hw'; go_simp; try with_reducible rfl)); simp only [Act.put, List.setIfInBounds_toArray, List.set_cons_zero, List.set_cons_succ]) | (refine wpC_val (v := ?_) (RBel.refl_) rfl (by rfl) ?_ ?_; rotate_left; (· (go_simp; try with_reducible rfl)); simp only [Act.put, List.setIfInBounds_toArray, List.set_cons_zero, List.set_cons_succ]) | (refine wpC_skip rfl (by rfl) ?_; simp only [Act.put, List.setIfInBounds_toArray, List.set_cons_zero, List.set_cons_succ]) | (refine wpC_skip' (RBel.refl_) rfl (by rfl) ?_; simp only [Act.put, List.setIfInBounds_toArray, List.set_cons_zero, List.set_cons_succ]))
          refine wpC_load_f RBel.refl_ rfl (by rfl) _ _ rfl b2 (o2 + k * 32) rfl (B8 y) _ (ry wd (RBel.refl_ wd)) Try.underlying26 rfl IY ?_
          simp only [Act.put, List.setIfInBounds_toArray, List.set_cons_zero, List.set_cons_succ]
          clear rx ry
          repeat (first | (refine wpC_quiet (v := ?_) rfl (by rfl) ?_ ?_; rotate_left; (· (intro w' hw'; go_simp; try with_reducible rfl)); simp only [Act.put, List.setIfInBounds_toArray, List.set_cons_zero, List.set_cons_succ]) | (refine wpC_val (v := ?_) (RBel.refl_) rfl (by rfl) ?_ ?_; rotate_left; (· (go_simp; try with_reducible rfl)); simp only [Act.put, List.setIfInBounds_toArray, List.set_cons_zero, List.set_cons_succ]) | (refine wpC_skip rfl (by rfl) ?_; simp only [Act.put, List.setIfInBounds_toArray, List.set_cons_zero, List.set_cons_succ]) | (refine wpC_skip' (RBel.refl_) rfl (by rfl) ?_; simp only [Act.put, List.setIfInBounds_toArray, List.set_cons_zero, List.set_cons_succ]))
          refine wpC_nil ?_
          clear eh
          have hnext : hs.take (k + 1) = hs2.take (k + 1) := by rw [List.take_add_one, List.take_add_one, HX.out, HY.out, HXY.out, HP.out]
          have HNX := Lib.hid hnext
          clear hnext
          go_wp2_with fail
          go_roundw
          case rel => exact ⟨k + 1, by go_num, by omega, HNX.out, fin⟩
          case measure => simp [intOf]; omega
        · rw [show decide (x = y) = false from by simp [hxy]] at eh
          have hne : hs ≠ hs2 := fun he => hxy (by have := HX.out; rw [he, HY.out] at this; injection this with this; exact this.symm)
          have HNE := Lib.hid hne
          clear hne xl yl
          go_wp2_with fail
          refine wp_region_C [(0, true), (1, true), (2, true), (3, true), (4, true), (5, false), (6, false), (7, false), (8, false)] RBel (by kernel_rfl) (by kernel_rfl) (by kernel_rfl) (by decide) RBel.refl_ RBel.trans_ (by intro d v c a w h; cases d <;> exact h) ?_
          generalize wr.drew = wd at *
          repeat (first | (refine wpC_quiet (v := ?_) rfl (by rfl) ?_ ?_; rotate_left; (· (intro w' hw'; go_simp; try with_reducible rfl)); simp only [Act.put, List.setIfInBounds_toArray, List.set_cons_zero, List.set_cons_succ]) | (refine wpC_val (v := ?_) (RBel.refl_) rfl (by rfl) ?_ ?_; rotate_left; (· (go_simp; try with_reducible rfl)); simp only [Act.put, List.setIfInBounds_toArray, List.set_cons_zero, List.set_cons_succ]) | (refine wpC_skip rfl (by rfl) ?_; simp only [Act.put, List.setIfInBounds_toArray, List.set_cons_zero, List.set_cons_succ]) | (refine wpC_skip' (RBel.refl_) rfl (by rfl) ?_; simp only [Act.put, List.setIfInBounds_toArray, List.set_cons_zero, List.set_cons_succ]))
          refine wpC_load rfl (by rfl) _ _ rfl b1 (o1 + k * 32) rfl (B8 x) _ rx Try.underlying26 rfl IX ?_
          simp only [Act.put, List.setIfInBounds_toArray, List.set_cons_zero, List.set_cons_succ]
          repeat (first | (refine wpC_quiet (v := ?_) rfl (by rfl) ?_ ?_; rotate_left; (· (intro w' hw'; go_simp; try with_reducible rfl)); simp only [Act.put, List.setIfInBounds_toArray, List.set_cons_zero, List.set_cons_succ]) | (refine wpC_val (v := ?_) (RBel.refl_) rfl (by rfl) ?_ ?_; rotate_left; (· (go_simp; try with_reducible rfl)); simp only [Act.put, List.setIfInBounds_toArray, List.set_cons_zero, List.set_cons_succ]) | (refine wpC_skip rfl (by rfl) ?_; simp only [Act.put, List.setIfInBounds_toArray, List.set_cons_zero, List.set_cons_succ]) | (refine wpC_skip' (RBel.refl_) rfl (by rfl) ?_; simp only [Act.put, List.setIfInBounds_toArray, List.set_cons_zero, List.set_cons_succ]))
          refine wpC_load_f RBel.refl_ rfl (by rfl) _ _ rfl b2 (o2 + k * 32) rfl (B8 y) _ (ry wd (RBel.refl_ wd)) Try.underlying26 rfl IY ?_
          simp only [Act.put, List.setIfInBounds_toArray, List.set_cons_zero, List.set_cons_succ]
          clear rx ry
          repeat (first | (refine wpC_quiet (v := ?_) rfl (by rfl) ?_ ?_; rotate_left; (· (intro w' hw'; go_simp; try with_reducible rfl)); simp only [Act.put, List.setIfInBounds_toArray, List.set_cons_zero, List.set_cons_succ]) | (refine wpC_val (v := ?_) (RBel.refl_) rfl (by rfl) ?_ ?_; rotate_left; (· (go_simp; try with_reducible rfl)); simp only [Act.put, List.setIfInBounds_toArray, List.set_cons_zero, List.set_cons_succ]) | (refine wpC_skip rfl (by rfl) ?_; simp only [Act.put, List.setIfInBounds_toArray, List.set_cons_zero, List.set_cons_succ]) | (refine wpC_skip' (RBel.refl_) rfl (by rfl) ?_; simp only [Act.put, List.setIfInBounds_toArray, List.set_cons_zero, List.set_cons_succ]))
          refine wpC_nil ?_
          clear eh
          go_wp2_with fail
          go_ret
          exact ⟨(show Ending.returned (.bool false) = _ from by rw [decide_eq_false HNE.out]), fin⟩
      · obtain rfl : n = k := by omega
        have e1 : hs.take n = hs := List.take_of_length_le (by rw [LN.out]; exact Nat.le_refl _)
        have e2 : hs2.take n = hs2 := List.take_of_length_le (by rw [LN2.out]; exact Nat.le_refl _)
        have he : hs = hs2 := by rw [← e1, ← e2]; exact HP.out
        have HE := Lib.hid he
        clear e1 e2 he
        go_wp2_with fail
        go_ret
        exact ⟨(show Ending.returned (.bool true) = _ from by rw [decide_eq_true HE.out]), hb⟩
  · have hne : hs ≠ hs2 := fun he => hnn (by rw [← LN.out, ← LN2.out, he])
    rw [show decide (hs = hs2) = false from by simp [hne]]
    have t1 : ((n : Int) != (n2 : Int)) = true := by simp; omega
    clear hne
    go_enter Try.func52, Try.ntmps52
    go_wp2_with fail
    go_ret
    exact ⟨rfl, Below.refl _ _⟩
def numC (d : GD) : List Value := [.int .i64 d.lo, .int .i64 d.hi, .int .i64 d.turn, .int .i64 d.moves, .int .i64 d.limit, .int .i64 d.cl, .int .i64 d.ref, .bool d.won]
def rootC (d : GD) : List Value := B8 d.rlo ++ B8 d.rhi ++ B8 d.mid
def numEq (a b : GD) : Prop := a.lo = b.lo ∧ a.hi = b.hi ∧ a.turn = b.turn ∧ a.moves = b.moves ∧ a.limit = b.limit ∧ a.cl = b.cl ∧ a.ref = b.ref ∧ a.won = b.won
def rootEq (a b : GD) : Prop := a.rlo = b.rlo ∧ a.rhi = b.rhi ∧ a.mid = b.mid
instance (a b : GD) : Decidable (numEq a b) := by unfold numEq; infer_instance
instance (a b : GD) : Decidable (rootEq a b) := by unfold rootEq; infer_instance
theorem gd_eq (a b : GD) : a = b ↔ numEq a b ∧ rootEq a b := by
  obtain ⟨a1, a2, a3, a4, a5, a6, a7, a8, a9, a10, a11⟩ := a
  obtain ⟨b1, b2, b3, b4, b5, b6, b7, b8, b9, b10, b11⟩ := b
  simp only [GD.mk.injEq, numEq, rootEq]
  constructor
  · rintro ⟨rfl, rfl, rfl, rfl, rfl, rfl, rfl, rfl, rfl, rfl, rfl⟩
    simp
  · rintro ⟨⟨rfl, rfl, rfl, rfl, rfl, rfl, rfl, rfl⟩, rfl, rfl, rfl⟩
    simp
theorem plain3 : Try.prog.plainKey 3 = true := by kernel_rfl
theorem plain4 : Try.prog.plainKey 4 = true := by kernel_rfl
set_option maxHeartbeats 4000000 in
theorem eq_numbers (a b : GD) (w : World) : (Op.equalIn 10000 80 (.agg (numC a).toArray) (.agg (numC b).toArray)).run Try.prog w = .ok (decide (numEq a b)) w := by
  rw [run_equalIn_struct w 9999 _ _ _ (by kernel_rfl) Try.stoodInHeld80]
  simp only [Program.fieldsOf, Try.underlying80]
  have I : ∀ x y : Int, (Op.equalIn 9999 3 (.int .i64 x) (.int .i64 y)).run Try.prog w = .ok (x == y) w := fun x y => run_equalIn_int w 9998 _ .i64 .i64 x y Try.underlying3
  have Bo : ∀ x y : Bool, (Op.equalIn 9999 4 (.bool x) (.bool y)).run Try.prog w = .ok (x == y) w := fun x y => run_equalIn_bool' w 9998 _ x y Try.underlying4
  unfold numEq
  rw [eqFields_step (by decide) (run_part_plain w plain3 rfl) (run_part_plain w plain3 rfl) (I a.lo b.lo)]
  rw [eqFields_step (by decide) (run_part_plain w plain3 rfl) (run_part_plain w plain3 rfl) (I a.hi b.hi)]
  rw [eqFields_step (by decide) (run_part_plain w plain3 rfl) (run_part_plain w plain3 rfl) (I a.turn b.turn)]
  rw [eqFields_step (by decide) (run_part_plain w plain3 rfl) (run_part_plain w plain3 rfl) (I a.moves b.moves)]
  rw [eqFields_step (by decide) (run_part_plain w plain3 rfl) (run_part_plain w plain3 rfl) (I a.limit b.limit)]
  rw [eqFields_step (by decide) (run_part_plain w plain3 rfl) (run_part_plain w plain3 rfl) (I a.cl b.cl)]
  rw [eqFields_step (by decide) (run_part_plain w plain3 rfl) (run_part_plain w plain3 rfl) (I a.ref b.ref)]
  rw [eqFields_step (by decide) (run_part_plain w plain4 rfl) (run_part_plain w plain4 rfl) (Bo a.won b.won)]
  rw [eqFields_nil]
  by_cases h1 : a.lo = b.lo
  · by_cases h2 : a.hi = b.hi
    · by_cases h3 : a.turn = b.turn
      · by_cases h4 : a.moves = b.moves
        · by_cases h5 : a.limit = b.limit
          · by_cases h6 : a.cl = b.cl
            · by_cases h7 : a.ref = b.ref
              · by_cases h8 : a.won = b.won
                · simp [h1, h2, h3, h4, h5, h6, h7, h8]
                · simp [h1, h2, h3, h4, h5, h6, h7, h8]
              · simp [h1, h2, h3, h4, h5, h6, h7]
            · simp [h1, h2, h3, h4, h5, h6]
          · simp [h1, h2, h3, h4, h5]
        · simp [h1, h2, h3, h4]
      · simp [h1, h2, h3]
    · simp [h1, h2]
  · simp [h1]
theorem ext_roots (d : GD) (h : GLen d) : (rootC d).toArray.extract 0 (0 + 32) = (B8 d.rlo).toArray ∧ (rootC d).toArray.extract 32 (32 + 32) = (B8 d.rhi).toArray ∧ (rootC d).toArray.extract 64 (64 + 32) = (B8 d.mid).toArray := by
  unfold rootC
  have l1 : (B8 d.rlo).length = 32 := by rw [B8_len, h.rlo]
  have l2 : (B8 d.rhi).length = 32 := by rw [B8_len, h.rhi]
  have l3 : (B8 d.mid).length = 32 := by rw [B8_len, h.mid]
  refine ⟨?_, ?_, ?_⟩
  · simp [l1]
  · have h2 := ext_mid (B8 d.rlo) (B8 d.rhi) (B8 d.mid)
    rw [l1, l2] at h2
    exact h2
  · have h3 := ext_mid (B8 d.rlo ++ B8 d.rhi) (B8 d.mid) []
    rw [List.length_append, l1, l2, l3, List.append_nil] at h3
    exact h3
theorem eq_hash9 (a b : List UInt8) (ha : a.length = 32) (hb : b.length = 32) (w : World) : (Op.equalIn 9999 26 (.agg (B8 a).toArray) (.agg (B8 b).toArray)).run Try.prog w = .ok (decide (a = b)) w := by
  obtain ⟨i, hi⟩ := info_u8'
  exact eq_bytes Try.underlying26 Try.underlying5 hi (by kernel_rfl) 9997 a b ha hb w
theorem eq_roots (a b : GD) (ha : GLen a) (hb : GLen b) (w : World) : (Op.equalIn 10000 82 (.agg (rootC a).toArray) (.agg (rootC b).toArray)).run Try.prog w = .ok (decide (rootEq a b)) w := by
  rw [run_equalIn_struct w 9999 _ _ _ (by kernel_rfl) Try.stoodInHeld82]
  simp only [Program.fieldsOf, Try.underlying82]
  have pr := fun (cs : Array Value) (off : Nat) => run_part_row (P := Try.prog) (t := 26) (n := 32) Try.underlying26 rfl (by kernel_rfl) cs off w
  obtain ⟨x1, x2, x3⟩ := ext_roots a ha
  obtain ⟨y1, y2, y3⟩ := ext_roots b hb
  unfold rootEq
  rw [eqFields_step (by decide) (by rw [pr, x1]) (by rw [pr, y1]) (eq_hash9 a.rlo b.rlo ha.1 hb.1 w)]
  rw [eqFields_step (by decide) (by rw [pr, x2]) (by rw [pr, y2]) (eq_hash9 a.rhi b.rhi ha.2 hb.2 w)]
  rw [eqFields_step (by decide) (by rw [pr, x3]) (by rw [pr, y3]) (eq_hash9 a.mid b.mid ha.3 hb.3 w)]
  rw [eqFields_nil]
  by_cases h1 : a.rlo = b.rlo
  · by_cases h2 : a.rhi = b.rhi
    · by_cases h3 : a.mid = b.mid
      · simp [h1, h2, h3]
      · simp [h1, h2, h3]
    · simp [h1, h2]
  · simp [h1]
theorem built_roots (d : GD) (h : GLen d) : Try.prog.built 82 [(0, .agg (B8 d.rlo).toArray), (1, .agg (B8 d.rhi).toArray), (2, .agg (B8 d.mid).toArray)] = some (rootC d).toArray := by
  rw [built_struct (z := .agg (B8 zero32 ++ B8 zero32 ++ B8 zero32).toArray) (places := [(0, 32), (32, 32), (64, 32)]) (by kernel_rfl) Try.underlying82 (by kernel_rfl)]
  have l1 : (B8 d.rlo).length = 32 := by rw [B8_len, h.rlo]
  have l2 : (B8 d.rhi).length = 32 := by rw [B8_len, h.rhi]
  have l3 : (B8 d.mid).length = 32 := by rw [B8_len, h.mid]
  have lz : (B8 zero32).length = 32 := rfl
  show Instr.fill _ (B8 zero32 ++ B8 zero32 ++ B8 zero32).toArray _ = _
  rw [fill_cons _ _ (B8 d.rlo) 0 0 _ _ (by rw [l1]; rfl) rfl (by simp [l1, lz])]
  rw [show put_ (B8 zero32 ++ B8 zero32 ++ B8 zero32) 0 (B8 d.rlo) = B8 d.rlo ++ B8 zero32 ++ B8 zero32 from by
    have := put_mid [] (B8 zero32) (B8 zero32 ++ B8 zero32) (B8 d.rlo) (by rw [l1, lz])
    simpa using this]
  rw [fill_cons _ _ (B8 d.rhi) 1 32 _ _ (by rw [l2]; rfl) rfl (by simp [l1, l2, lz])]
  rw [show put_ (B8 d.rlo ++ B8 zero32 ++ B8 zero32) 32 (B8 d.rhi) = B8 d.rlo ++ B8 d.rhi ++ B8 zero32 from by
    have := put_mid (B8 d.rlo) (B8 zero32) (B8 zero32) (B8 d.rhi) (by rw [l2, lz])
    rw [l1] at this
    exact this]
  rw [fill_cons _ _ (B8 d.mid) 2 64 _ _ (by rw [l3]; rfl) rfl (by simp [l1, l2, l3, lz])]
  rw [show put_ (B8 d.rlo ++ B8 d.rhi ++ B8 zero32) 64 (B8 d.mid) = B8 d.rlo ++ B8 d.rhi ++ B8 d.mid from by
    have := put_mid (B8 d.rlo ++ B8 d.rhi) (B8 zero32) [] (B8 d.mid) (by rw [l3, lz])
    rw [List.length_append, l1, l2] at this
    simpa using this]
  rfl
end Go.Proofs.Ytaaiembhdfgkjaa
