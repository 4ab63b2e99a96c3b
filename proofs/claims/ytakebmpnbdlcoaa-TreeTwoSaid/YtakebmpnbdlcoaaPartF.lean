/- The texts of this claim, part F: words, plain laws, walks. -/
import Derived.Test.YtakebmpnbdlcoaaPartE
import Derived.Test.YtakebmpnbdlcoaaPartA
import Derived.Maps.Range
import Derived.Maps.RangeWalk
import Derived.Maps.Views
import Derived.DeepKeys5
import Derived.Test.YtakebmpnbdlcoaaPartC
/- Walks: the document's states: Put, Same. -/
set_option linter.unusedSimpArgs false
set_option linter.unusedVariables false
namespace Go.Proofs.Ytakebmpnbdlcoaa
open Go.RowKit
set_option maxRecDepth 100000
theorem El.acc : El Try.prog 32 23 4 32 := El.mk' (z := .agg #[.int .i64 0, .int .i64 0, .int .i64 0, .int .i64 0]) Try.underlying32 (by kernel_rfl) rfl (by decide)
theorem A4_take : ∀ (k : Nat) (s : List Acc), A4 (s.take k) = (A4 s).take (k * 4)
  | 0, s => by simp [A4]
  | k + 1, [] => by simp [A4]
  | k + 1, a :: s => by
    have ih := A4_take k s
    have ha : (accC a).length = 4 := rfl
    simp only [A4, List.take_succ_cons, List.flatMap_cons] at ih ⊢
    rw [ih, List.take_append, ha, List.take_of_length_le (l := accC a) (by rw [ha]; omega), show (k + 1) * 4 - 4 = k * 4 from by omega]
theorem A4_drop : ∀ (k : Nat) (s : List Acc), A4 (s.drop k) = (A4 s).drop (k * 4)
  | 0, s => by simp [A4]
  | k + 1, [] => by simp [A4]
  | k + 1, a :: s => by
    have ih := A4_drop k s
    have ha : (accC a).length = 4 := rfl
    simp only [A4, List.drop_succ_cons, List.flatMap_cons] at ih ⊢
    rw [ih, List.drop_append, ha, show (accC a).drop ((k + 1) * 4) = [] from List.drop_eq_nil_of_le (by rw [ha]; omega), show (k + 1) * 4 - 4 = k * 4 from by omega]
    simp
theorem Sl.front4 {w : World} {A : Option Addr} {n k : Nat} {s : List Acc} (h : Sl w 4 A n (A4 s)) (hk : k ≤ n) : Sl w 4 A k (A4 (s.take k)) := by
  have hlen := h.len
  refine ⟨by rw [A4_take k s, List.length_take, hlen]; omega, fun h0 => ?_⟩
  obtain ⟨b, o, e, hb, hc⟩ := h.cells (by omega)
  refine ⟨b, o, e, hb, fun j u hu => hc j u ?_⟩
  rw [A4_take k s, List.getElem?_take] at hu
  split at hu
  · exact hu
  · cases hu
theorem Sl.back4 {w : World} {b o n k : Nat} {s : List Acc} (h : Sl w 4 (some ⟨b, o, none⟩) n (A4 s)) (hk : k ≤ n) : Sl w 4 (some ⟨b, o + k * 4, none⟩) (n - k) (A4 (s.drop k)) := by
  have hlen := h.len
  refine ⟨by rw [A4_drop k s, List.length_drop, hlen]; omega, fun h0 => ?_⟩
  obtain ⟨b', o', e, hb, hc⟩ := h.cells (by omega)
  simp only [Option.some.injEq, Addr.mk.injEq, and_true] at e
  obtain ⟨rfl, rfl⟩ := e
  refine ⟨b, o + k * 4, rfl, hb, fun j u hu => ?_⟩
  rw [A4_drop k s, List.getElem?_drop] at hu
  rw [Nat.add_assoc]
  exact hc (k * 4 + j) u hu
/-- where an account is put -/
theorem put_at : ∀ (s : List Acc) (a : Acc) (q : Nat), (∀ x ∈ s.take q, x.id < a.id) → q ≤ s.length → (∀ x, s[q]? = some x → ¬ x.id < a.id) →
    putS s a = s.take q ++ one_if a ++ (match s[q]? with | some x => if x.id = a.id then s.drop (q + 1) else s.drop q | none => [])
  | [], a, q, _, hq, _ => by
    obtain rfl : q = 0 := by simpa using hq
    simp [putS]
  | x :: s, a, 0, _, _, h2 => by
    have := h2 x rfl
    unfold putS
    rw [if_neg this]
    simp
  | x :: s, a, q + 1, h1, hq, h2 => by
    have ih := put_at s a q (fun y hy => h1 y (by simp [hy])) (by simpa using hq) (fun y hy => h2 y (by simpa using hy))
    unfold putS
    rw [if_pos (h1 x (by simp)), ih]
    simp
set_option maxRecDepth 100000 in
set_option maxHeartbeats 4000000 in
theorem refPut_any (A : Option Addr) (n c : Nat) (s : List Acc) (a : Acc) (w : World) (sl : Sl w 4 A n (A4 s)) (hlen : s.length = n) (hn : n ≤ 1099511627776) (hnc : n ≤ c) (hA : ∀ ad, A = some ad → ∃ b o, ad = ⟨b, o, none⟩) :
    Calls Try.prog 20 #[.slice A n c, accV a] w (RSl w 23 4 (A4 (putS s a))) := by
  unfold accV
  obtain ⟨W, HW, hbw, ba⟩ : ∃ W, Hid (W = w.alloc (.cells (accC a).toArray 23)) ∧ Below w.heap.size w W ∧ Blk W w.heap.size 23 (accC a) := ⟨_, rfl, (Below.refl _ _).alloc (Nat.le_refl _) _, Blk.new w (accC a).toArray 23⟩
  have HLN := Lib.hid hlen
  have HA := Lib.hid hA
  have hWz := ba.lt
  clear hlen hA
  go_enter Try.func20, Try.ntmps20
  go_upto_region 1 with fail
  refine wp_at HW.out ?_
  clear HW
  go_wp2_with fail
  go_loopw [5] (fun k wr => ∃ q : Nat, k = .int .i64 (q : Int) ∧ q ≤ n ∧ Hid (∀ x ∈ s.take q, x.id < a.id) ∧ Below (w.heap.size + 1) W wr) (fun k _ => n - (intOf k).toNat)
  case atStart => exact ⟨0, rfl, Nat.zero_le _, (by show ∀ x ∈ s.take 0, _; simp), Below.refl _ _⟩
  case round =>
    obtain ⟨q, rfl, hq, hlow, hf⟩ := hrel
    have slr := sl.to (hbw.trans (hf.mono (by omega)))
    have bar := ba.below hf (by omega)
    have e0 : wr.drew.cell? ⟨w.heap.size, 0, none⟩ = some (.int .i64 a.id) := by
      have := bar.cell 0
      exact this
    by_cases hlt : q < n
    · have t1 : (q : Int) < (n : Int) := by omega
      obtain ⟨x, hx⟩ : ∃ x, s[q]? = some x := ⟨_, List.getElem?_eq_getElem (by rw [HLN.out]; exact hlt)⟩
      obtain ⟨b, o, rfl, hb⟩ := slr.some_ (by omega)
      have c0 : wr.drew.cell? ⟨b, o + q * 4, none⟩ = some (.int .i64 x.id) := slr.id4 q x hx
      by_cases hid : x.id < a.id
      · have HLO : Hid (∀ y ∈ s.take (q + 1), y.id < a.id) := (by
          show ∀ y ∈ s.take (q + 1), y.id < a.id
          intro y hy
          rw [List.take_add_one, hx, List.mem_append] at hy
          rcases hy with hy | hy
          · exact hlow.out y hy
          · simp at hy
            subst hy
            exact hid)
        clear hx
        go_wp2_with fail
        refine wp_region_E [(0, true), (1, true), (2, true), (3, true), (4, true), (5, true), (6, true), (7, true), (8, true), (9, true), (10, true), (11, true), (12, true), (13, true)] (by kernel_rfl) (by kernel_rfl) (by kernel_rfl) (by decide) (by intro d v c a w h; cases d <;> exact h) ?_
        repeat (first | (refine wpC_eq (v := ?_) rfl (by rfl) ?_ ?_; rotate_left; (· (go_simp; try with_reducible rfl)); simp only [Act.put, List.setIfInBounds_toArray, List.set_cons_zero, List.set_cons_succ]) | (refine wpC_skip rfl (by rfl) ?_; simp only [Act.put, List.setIfInBounds_toArray, List.set_cons_zero, List.set_cons_succ]))
        refine wpC_nil ?_
        go_wp2_with fail
        go_roundw
        case rel => exact ⟨q + 1, by go_num, by omega, HLO, hf.drew⟩
        case measure => simp [intOf]; omega
      · have t2 : decide (x.id < a.id) = false := decide_eq_false hid
        have HX := Lib.hid hx
        have HID := Lib.hid hid
        clear hx hid
        go_wp2_with fail
        refine wp_region_E [(0, true), (1, true), (2, true), (3, true), (4, true), (5, true), (6, true), (7, true), (8, true), (9, true), (10, true), (11, true), (12, true), (13, true)] (by kernel_rfl) (by kernel_rfl) (by kernel_rfl) (by decide) (by intro d v c a w h; cases d <;> exact h) ?_
        repeat (first | (refine wpC_eq (v := ?_) rfl (by rfl) ?_ ?_; rotate_left; (· (go_simp; try with_reducible rfl)); simp only [Act.put, List.setIfInBounds_toArray, List.set_cons_zero, List.set_cons_succ]) | (refine wpC_skip rfl (by rfl) ?_; simp only [Act.put, List.setIfInBounds_toArray, List.set_cons_zero, List.set_cons_succ]))
        refine wpC_nil ?_
        have f0 : Below (w.heap.size + 1) W wr.drew := hf.drew
        have bav : Blk wr.drew w.heap.size 23 (accC a) := bar
        have slv := slr.drew
        clear bar hf e0 c0
        generalize wr.drew = V at *
        have slq := slv.front4 hq
        by_cases hno : a.none
        · go_wp2_with (first
            | (at_builtin
               refine wpl_app _ _ _ _ El.acc rfl rfl rfl (Own.made V (w.heap.size + 1) 23 #[] (by have := f0.size; omega) (Nat.zero_le _) rfl) rfl ((slq).alloc _) (A4_one _) (by omega) (by omega) (by have := f0.size; simp; omega) ?_
               intro A1 c1 w1 g1
               have g1 := Lib.hid g1
               have b1 : Below (w.heap.size + 1) V w1 := ((Below.refl _ _).alloc (by have := f0.size; omega) _).trans (g1.out.below (Own.made V (w.heap.size + 1) 23 #[] (by have := f0.size; omega) (Nat.zero_le _) rfl) (by have := f0.size; simp; omega))
               have ba1 := bav.below b1 (by omega)
               have f1 := f0.trans b1
               obtain ⟨-, k0, k1, k2, k3⟩ := acc_cells ba1))
          have o1 := g1.out.own
          simp only [Nat.zero_add, List.nil_append] at o1
          refine (refNone_any a w1).mono ?_
          rintro e w2 ⟨rfl, hb2⟩
          have hw1 : w.heap.size + 1 ≤ w1.heap.size := by have := f1.size; omega
          have f2 := f1.trans (hb2.mono hw1)
          have hw2 : w.heap.size + 1 ≤ w2.heap.size := by have := f2.size; omega
          have ba2 := ba1.to hb2
          have o2 := o1.to hb2
          clear g1 b1 f0 bav k0 k1 k2 k3 f1 ba1 o1 hb2
          obtain ⟨-, k0, k1, k2, k3⟩ := acc_cells ba2
          have hone : one_if a = [] := by unfold one_if; rw [if_pos hno]
          have HONE := Lib.hid hone
          rw [show A4 (s.take q) = A4 (s.take q ++ one_if a) from by rw [hone, List.append_nil]] at o2
          clear hone
          rw [decide_eq_true hno]
          go_wp2_with fail
          have slZ := sl.to (hbw.trans (f2.mono (by omega)))
          have e1 : w2.drew.cell? ⟨w.heap.size, 0, none⟩ = some (.int .i64 a.id) := ba2.cell 0
          have c1' : w2.drew.cell? ⟨b, o + q * 4, none⟩ = some (.int .i64 x.id) := slZ.id4 q x HX.out
          have fD : Below (w.heap.size + 1) W w2.drew := f2.drew
          have oD : Own w2.drew (w.heap.size + 1) 23 4 A1 (q) c1 (A4 (s.take q ++ one_if a)) := o2
          have slD := slZ.drew
          by_cases heq : x.id = a.id
          · have t3 : (x.id == a.id) = true := by simpa using heq
            go_wp2_with fail
            refine wp_region_E [(0, true), (1, true), (2, true), (3, true), (4, true), (5, true), (6, true), (7, true), (8, true), (9, true), (10, true), (11, true), (12, true), (13, true)] (by kernel_rfl) (by kernel_rfl) (by kernel_rfl) (by decide) (by intro d v c a w h; cases d <;> exact h) ?_
            repeat (first | (refine wpC_eq (v := ?_) rfl (by rfl) ?_ ?_; rotate_left; (· (go_simp; try with_reducible rfl)); simp only [Act.put, List.setIfInBounds_toArray, List.set_cons_zero, List.set_cons_succ]) | (refine wpC_skip rfl (by rfl) ?_; simp only [Act.put, List.setIfInBounds_toArray, List.set_cons_zero, List.set_cons_succ]))
            refine wpC_nil ?_
            generalize w2.drew = Y at *
            have hput := put_at s a q hlow.out (by rw [HLN.out]; exact hq) (by intro y hy; rw [HX.out] at hy; injection hy with hy; subst hy; exact Int.not_lt.2 HID.out)
            rw [HX.out] at hput
            simp only [if_pos heq] at hput
            have HPUT : Hid (A4 (putS s a) = A4 (s.take q ++ one_if a) ++ A4 (s.drop (q + 1))) := (show _ = _ by rw [hput, A4_app])
            have hY : w.heap.size + 1 ≤ Y.heap.size := by have := fD.size; omega
            clear hput e1 c1'
            by_cases hck : c = q + 1
            · subst hck
              have hnq : n = q + 1 := by omega
              have slK : ∀ A', Sl Y 4 A' 0 (A4 (s.drop (q + 1))) := fun A' => ⟨by rw [A4_len, List.length_drop, HLN.out]; omega, fun h => absurd h (by omega)⟩
              have slK := slK (some ⟨b, o, none⟩)
              go_wp2_with (first
                | (at_builtin
                   go_loud (refine wpl_app _ _ _ _ El.acc rfl rfl rfl oD rfl slK (A4_one _) (by omega) (by omega) hY ?_)
                   intro AF cF wF gF))
              have oF := gF.own
              have bF := gF.below oD hY
              go_ret
              rw [← HPUT.out] at oF
              try rw [show q + (n - q) = n from by omega] at oF
              exact RSl.mk (Own.mono (B' := w.heap.size) oF (show w.heap.size ≤ w.heap.size + 1 by omega)) (hbw.trans (Below.mono (fD.trans bF) (show w.heap.size ≤ w.heap.size + 1 by omega)))
            · have slK := slD.back4 (k := q + 1) hlt
              go_wp2_with (first
                | (at_builtin
                   go_loud (refine wpl_app _ _ _ _ El.acc rfl rfl rfl oD rfl slK (A4_one _) (by omega) (by omega) hY ?_)
                   intro AF cF wF gF))
              have oF := gF.own
              have bF := gF.below oD hY
              go_ret
              rw [← HPUT.out] at oF
              try rw [show q + (n - q) = n from by omega] at oF
              exact RSl.mk (Own.mono (B' := w.heap.size) oF (show w.heap.size ≤ w.heap.size + 1 by omega)) (hbw.trans (Below.mono (fD.trans bF) (show w.heap.size ≤ w.heap.size + 1 by omega)))
          · have t3 : (x.id == a.id) = false := by simpa using heq
            go_wp2_with fail
            refine wp_region_E [(0, true), (1, true), (2, true), (3, true), (4, true), (5, true), (6, true), (7, true), (8, true), (9, true), (10, true), (11, true), (12, true), (13, true)] (by kernel_rfl) (by kernel_rfl) (by kernel_rfl) (by decide) (by intro d v c a w h; cases d <;> exact h) ?_
            repeat (first | (refine wpC_eq (v := ?_) rfl (by rfl) ?_ ?_; rotate_left; (· (go_simp; try with_reducible rfl)); simp only [Act.put, List.setIfInBounds_toArray, List.set_cons_zero, List.set_cons_succ]) | (refine wpC_skip rfl (by rfl) ?_; simp only [Act.put, List.setIfInBounds_toArray, List.set_cons_zero, List.set_cons_succ]))
            refine wpC_nil ?_
            generalize w2.drew = Y at *
            have hput := put_at s a q hlow.out (by rw [HLN.out]; exact hq) (by intro y hy; rw [HX.out] at hy; injection hy with hy; subst hy; exact Int.not_lt.2 HID.out)
            rw [HX.out] at hput
            simp only [if_neg heq] at hput
            have HPUT : Hid (A4 (putS s a) = A4 (s.take q ++ one_if a) ++ A4 (s.drop (q))) := (show _ = _ by rw [hput, A4_app])
            have hY : w.heap.size + 1 ≤ Y.heap.size := by have := fD.size; omega
            clear hput e1 c1'
            have hck : ¬ c = q := by omega
            · have slK := slD.back4 (k := q) hq
              go_wp2_with (first
                | (at_builtin
                   go_loud (refine wpl_app _ _ _ _ El.acc rfl rfl rfl oD rfl slK (A4_one _) (by omega) (by omega) hY ?_)
                   intro AF cF wF gF))
              have oF := gF.own
              have bF := gF.below oD hY
              go_ret
              rw [← HPUT.out] at oF
              try rw [show q + (n - q) = n from by omega] at oF
              exact RSl.mk (Own.mono (B' := w.heap.size) oF (show w.heap.size ≤ w.heap.size + 1 by omega)) (hbw.trans (Below.mono (fD.trans bF) (show w.heap.size ≤ w.heap.size + 1 by omega)))
        · go_wp2_with (first
            | (at_builtin
               refine wpl_app _ _ _ _ El.acc rfl rfl rfl (Own.made V (w.heap.size + 1) 23 #[] (by have := f0.size; omega) (Nat.zero_le _) rfl) rfl ((slq).alloc _) (A4_one _) (by omega) (by omega) (by have := f0.size; simp; omega) ?_
               intro A1 c1 w1 g1
               have g1 := Lib.hid g1
               have b1 : Below (w.heap.size + 1) V w1 := ((Below.refl _ _).alloc (by have := f0.size; omega) _).trans (g1.out.below (Own.made V (w.heap.size + 1) 23 #[] (by have := f0.size; omega) (Nat.zero_le _) rfl) (by have := f0.size; simp; omega))
               have ba1 := bav.below b1 (by omega)
               have f1 := f0.trans b1
               obtain ⟨-, k0, k1, k2, k3⟩ := acc_cells ba1))
          have o1 := g1.out.own
          simp only [Nat.zero_add, List.nil_append] at o1
          refine (refNone_any a w1).mono ?_
          rintro e w2 ⟨rfl, hb2⟩
          have hw1 : w.heap.size + 1 ≤ w1.heap.size := by have := f1.size; omega
          have f2 := f1.trans (hb2.mono hw1)
          have hw2 : w.heap.size + 1 ≤ w2.heap.size := by have := f2.size; omega
          have ba2 := ba1.to hb2
          have o2 := o1.to hb2
          clear g1 b1 f0 bav k0 k1 k2 k3 f1 ba1 o1 hb2
          obtain ⟨-, k0, k1, k2, k3⟩ := acc_cells ba2
          rw [decide_eq_false hno]
          go_wp2_with (first
            | (at_builtin
               refine wpl_push _ _ _ El.acc (cs := #[.int .i64 a.id, .int .i64 a.bal, .int .i64 a.non, .int .i64 a.dat]) rfl rfl rfl o2 rfl rfl (accC_one a) (by omega) (by omega) hw2 ?_
               intro A3 c3 w3 g3 hb3 hg3))
          have o3 := g3.own
          have hone : one_if a = [a] := by unfold one_if; rw [if_neg hno]
          have HONE := Lib.hid hone
          rw [show A4 (s.take q) ++ (#[.int .i64 a.id, .int .i64 a.bal, .int .i64 a.non, .int .i64 a.dat] : Array Value).toList = A4 (s.take q ++ one_if a) from by rw [hone, A4_app]; rfl] at o3
          have f3 := f2.trans hb3
          have ba3 := ba2.below hb3 (by omega)
          clear hone g3 hg3 hb3 o2 k0 k1 k2 k3
          have slZ := sl.to (hbw.trans (f3.mono (by omega)))
          have e1 : w3.drew.cell? ⟨w.heap.size, 0, none⟩ = some (.int .i64 a.id) := ba3.cell 0
          have c1' : w3.drew.cell? ⟨b, o + q * 4, none⟩ = some (.int .i64 x.id) := slZ.id4 q x HX.out
          have fD : Below (w.heap.size + 1) W w3.drew := f3.drew
          have oD : Own w3.drew (w.heap.size + 1) 23 4 A3 (q + 1) c3 (A4 (s.take q ++ one_if a)) := o3
          have slD := slZ.drew
          by_cases heq : x.id = a.id
          · have t3 : (x.id == a.id) = true := by simpa using heq
            go_wp2_with fail
            refine wp_region_E [(0, true), (1, true), (2, true), (3, true), (4, true), (5, true), (6, true), (7, true), (8, true), (9, true), (10, true), (11, true), (12, true), (13, true)] (by kernel_rfl) (by kernel_rfl) (by kernel_rfl) (by decide) (by intro d v c a w h; cases d <;> exact h) ?_
            repeat (first | (refine wpC_eq (v := ?_) rfl (by rfl) ?_ ?_; rotate_left; (· (go_simp; try with_reducible rfl)); simp only [Act.put, List.setIfInBounds_toArray, List.set_cons_zero, List.set_cons_succ]) | (refine wpC_skip rfl (by rfl) ?_; simp only [Act.put, List.setIfInBounds_toArray, List.set_cons_zero, List.set_cons_succ]))
            refine wpC_nil ?_
            generalize w3.drew = Y at *
            have hput := put_at s a q hlow.out (by rw [HLN.out]; exact hq) (by intro y hy; rw [HX.out] at hy; injection hy with hy; subst hy; exact Int.not_lt.2 HID.out)
            rw [HX.out] at hput
            simp only [if_pos heq] at hput
            have HPUT : Hid (A4 (putS s a) = A4 (s.take q ++ one_if a) ++ A4 (s.drop (q + 1))) := (show _ = _ by rw [hput, A4_app])
            have hY : w.heap.size + 1 ≤ Y.heap.size := by have := fD.size; omega
            clear hput e1 c1'
            by_cases hck : c = q + 1
            · subst hck
              have hnq : n = q + 1 := by omega
              have slK : ∀ A', Sl Y 4 A' 0 (A4 (s.drop (q + 1))) := fun A' => ⟨by rw [A4_len, List.length_drop, HLN.out]; omega, fun h => absurd h (by omega)⟩
              have slK := slK (some ⟨b, o, none⟩)
              go_wp2_with (first
                | (at_builtin
                   go_loud (refine wpl_app _ _ _ _ El.acc rfl rfl rfl oD rfl slK (A4_one _) (by omega) (by omega) hY ?_)
                   intro AF cF wF gF))
              have oF := gF.own
              have bF := gF.below oD hY
              go_ret
              rw [← HPUT.out] at oF
              try rw [show q + (n - q) = n from by omega] at oF
              exact RSl.mk (Own.mono (B' := w.heap.size) oF (show w.heap.size ≤ w.heap.size + 1 by omega)) (hbw.trans (Below.mono (fD.trans bF) (show w.heap.size ≤ w.heap.size + 1 by omega)))
            · have slK := slD.back4 (k := q + 1) hlt
              go_wp2_with (first
                | (at_builtin
                   go_loud (refine wpl_app _ _ _ _ El.acc rfl rfl rfl oD rfl slK (A4_one _) (by omega) (by omega) hY ?_)
                   intro AF cF wF gF))
              have oF := gF.own
              have bF := gF.below oD hY
              go_ret
              rw [← HPUT.out] at oF
              try rw [show q + (n - q) = n from by omega] at oF
              exact RSl.mk (Own.mono (B' := w.heap.size) oF (show w.heap.size ≤ w.heap.size + 1 by omega)) (hbw.trans (Below.mono (fD.trans bF) (show w.heap.size ≤ w.heap.size + 1 by omega)))
          · have t3 : (x.id == a.id) = false := by simpa using heq
            go_wp2_with fail
            refine wp_region_E [(0, true), (1, true), (2, true), (3, true), (4, true), (5, true), (6, true), (7, true), (8, true), (9, true), (10, true), (11, true), (12, true), (13, true)] (by kernel_rfl) (by kernel_rfl) (by kernel_rfl) (by decide) (by intro d v c a w h; cases d <;> exact h) ?_
            repeat (first | (refine wpC_eq (v := ?_) rfl (by rfl) ?_ ?_; rotate_left; (· (go_simp; try with_reducible rfl)); simp only [Act.put, List.setIfInBounds_toArray, List.set_cons_zero, List.set_cons_succ]) | (refine wpC_skip rfl (by rfl) ?_; simp only [Act.put, List.setIfInBounds_toArray, List.set_cons_zero, List.set_cons_succ]))
            refine wpC_nil ?_
            generalize w3.drew = Y at *
            have hput := put_at s a q hlow.out (by rw [HLN.out]; exact hq) (by intro y hy; rw [HX.out] at hy; injection hy with hy; subst hy; exact Int.not_lt.2 HID.out)
            rw [HX.out] at hput
            simp only [if_neg heq] at hput
            have HPUT : Hid (A4 (putS s a) = A4 (s.take q ++ one_if a) ++ A4 (s.drop (q))) := (show _ = _ by rw [hput, A4_app])
            have hY : w.heap.size + 1 ≤ Y.heap.size := by have := fD.size; omega
            clear hput e1 c1'
            have hck : ¬ c = q := by omega
            · have slK := slD.back4 (k := q) hq
              go_wp2_with (first
                | (at_builtin
                   go_loud (refine wpl_app _ _ _ _ El.acc rfl rfl rfl oD rfl slK (A4_one _) (by omega) (by omega) hY ?_)
                   intro AF cF wF gF))
              have oF := gF.own
              have bF := gF.below oD hY
              go_ret
              rw [← HPUT.out] at oF
              try rw [show q + (n - q) = n from by omega] at oF
              exact RSl.mk (Own.mono (B' := w.heap.size) oF (show w.heap.size ≤ w.heap.size + 1 by omega)) (hbw.trans (Below.mono (fD.trans bF) (show w.heap.size ≤ w.heap.size + 1 by omega)))
    · obtain rfl : q = n := by omega
      have t1 : ¬ (q : Int) < (q : Int) := by omega
      have hnone : s[q]? = none := List.getElem?_eq_none (by rw [HLN.out]; exact Nat.le_refl _)
      have HX := Lib.hid hnone
      clear hnone
      rcases A with _ | ad
      · obtain rfl : q = 0 := by
          rcases Nat.eq_zero_or_pos q with h | h
          · exact h
          · obtain ⟨b, o, e, _⟩ := sl.some_ h
            cases e
        go_wp2_with fail
        refine wp_region_E [(0, true), (1, true), (2, true), (3, true), (4, true), (5, true), (6, true), (7, true), (8, true), (9, true), (10, true), (11, true), (12, true), (13, true)] (by kernel_rfl) (by kernel_rfl) (by kernel_rfl) (by decide) (by intro d v c a w h; cases d <;> exact h) ?_
        repeat (first | (refine wpC_eq (v := ?_) rfl (by rfl) ?_ ?_; rotate_left; (· (go_simp; try with_reducible rfl)); simp only [Act.put, List.setIfInBounds_toArray, List.set_cons_zero, List.set_cons_succ]) | (refine wpC_skip rfl (by rfl) ?_; simp only [Act.put, List.setIfInBounds_toArray, List.set_cons_zero, List.set_cons_succ]))
        refine wpC_nil ?_
        have f0 : Below (w.heap.size + 1) W wr.drew := hf.drew
        have bav : Blk wr.drew w.heap.size 23 (accC a) := bar
        have slv := slr.drew
        clear bar hf e0
        generalize wr.drew = V at *
        have slq := slv.front4 (Nat.le_refl _)
        by_cases hno : a.none
        · go_wp2_with (first
            | (at_builtin
               refine wpl_app _ _ _ _ El.acc rfl rfl rfl (Own.made V (w.heap.size + 1) 23 #[] (by have := f0.size; omega) (Nat.zero_le _) rfl) rfl ((slq).alloc _) (A4_one _) (by omega) (by omega) (by have := f0.size; simp; omega) ?_
               intro A1 c1 w1 g1
               have g1 := Lib.hid g1
               have b1 : Below (w.heap.size + 1) V w1 := ((Below.refl _ _).alloc (by have := f0.size; omega) _).trans (g1.out.below (Own.made V (w.heap.size + 1) 23 #[] (by have := f0.size; omega) (Nat.zero_le _) rfl) (by have := f0.size; simp; omega))
               have ba1 := bav.below b1 (by omega)
               have f1 := f0.trans b1
               obtain ⟨-, k0, k1, k2, k3⟩ := acc_cells ba1))
          have o1 := g1.out.own
          simp only [Nat.zero_add, List.nil_append] at o1
          refine (refNone_any a w1).mono ?_
          rintro e w2 ⟨rfl, hb2⟩
          have hw1 : w.heap.size + 1 ≤ w1.heap.size := by have := f1.size; omega
          have f2 := f1.trans (hb2.mono hw1)
          have hw2 : w.heap.size + 1 ≤ w2.heap.size := by have := f2.size; omega
          have ba2 := ba1.to hb2
          have o2 := o1.to hb2
          clear g1 b1 f0 bav k0 k1 k2 k3 f1 ba1 o1 hb2
          obtain ⟨-, k0, k1, k2, k3⟩ := acc_cells ba2
          have hone : one_if a = [] := by unfold one_if; rw [if_pos hno]
          have HONE := Lib.hid hone
          rw [show A4 (s.take 0) = A4 (s.take 0 ++ one_if a) from by rw [hone, List.append_nil]] at o2
          clear hone
          rw [decide_eq_true hno]
          go_wp2_with fail
          have fD : Below (w.heap.size + 1) W w2.drew := f2.drew
          have oD : Own w2.drew (w.heap.size + 1) 23 4 A1 (0) c1 (A4 (s.take 0 ++ one_if a)) := o2
          go_wp2_with fail
          refine wp_region_E [(0, true), (1, true), (2, true), (3, true), (4, true), (5, true), (6, true), (7, true), (8, true), (9, true), (10, true), (11, true), (12, true), (13, true)] (by kernel_rfl) (by kernel_rfl) (by kernel_rfl) (by decide) (by intro d v c a w h; cases d <;> exact h) ?_
          repeat (first | (refine wpC_eq (v := ?_) rfl (by rfl) ?_ ?_; rotate_left; (· (go_simp; try with_reducible rfl)); simp only [Act.put, List.setIfInBounds_toArray, List.set_cons_zero, List.set_cons_succ]) | (refine wpC_skip rfl (by rfl) ?_; simp only [Act.put, List.setIfInBounds_toArray, List.set_cons_zero, List.set_cons_succ]))
          refine wpC_nil ?_
          generalize w2.drew = Y at *
          have hput := put_at s a 0 hlow.out (by rw [HLN.out]; exact hq) (by intro y hy; rw [HX.out] at hy; cases hy)
          rw [HX.out] at hput
          simp only [List.append_nil] at hput
          have HPUT : Hid (A4 (putS s a) = A4 (s.take 0 ++ one_if a) ++ []) := (show _ = _ by rw [hput, List.append_nil])
          have hY : w.heap.size + 1 ≤ Y.heap.size := by have := fD.size; omega
          clear hput
          have slK : ∀ A', Sl Y 4 A' 0 [] := fun A' => ⟨rfl, fun h => absurd h (by omega)⟩
          by_cases hck : c = 0
          · subst hck
            go_wp2_with (first
              | (at_builtin
                 refine wpl_app _ _ _ _ El.acc rfl rfl rfl oD rfl (slK _) (by simp) (by omega) (by omega) hY ?_
                 intro AF cF wF gF))
            have oF := gF.own
            have bF := gF.below oD hY
            go_ret
            rw [← HPUT.out] at oF
            exact RSl.mk (Own.mono (B' := w.heap.size) oF (show w.heap.size ≤ w.heap.size + 1 by omega)) (hbw.trans (Below.mono (fD.trans bF) (show w.heap.size ≤ w.heap.size + 1 by omega)))
          · go_wp2_with (first
              | (at_builtin
                 refine wpl_app _ _ _ _ El.acc rfl rfl rfl oD rfl (slK _) (by simp) (by omega) (by omega) hY ?_
                 intro AF cF wF gF))
            have oF := gF.own
            have bF := gF.below oD hY
            go_ret
            rw [← HPUT.out] at oF
            exact RSl.mk (Own.mono (B' := w.heap.size) oF (show w.heap.size ≤ w.heap.size + 1 by omega)) (hbw.trans (Below.mono (fD.trans bF) (show w.heap.size ≤ w.heap.size + 1 by omega)))
        · go_wp2_with (first
            | (at_builtin
               refine wpl_app _ _ _ _ El.acc rfl rfl rfl (Own.made V (w.heap.size + 1) 23 #[] (by have := f0.size; omega) (Nat.zero_le _) rfl) rfl ((slq).alloc _) (A4_one _) (by omega) (by omega) (by have := f0.size; simp; omega) ?_
               intro A1 c1 w1 g1
               have g1 := Lib.hid g1
               have b1 : Below (w.heap.size + 1) V w1 := ((Below.refl _ _).alloc (by have := f0.size; omega) _).trans (g1.out.below (Own.made V (w.heap.size + 1) 23 #[] (by have := f0.size; omega) (Nat.zero_le _) rfl) (by have := f0.size; simp; omega))
               have ba1 := bav.below b1 (by omega)
               have f1 := f0.trans b1
               obtain ⟨-, k0, k1, k2, k3⟩ := acc_cells ba1))
          have o1 := g1.out.own
          simp only [Nat.zero_add, List.nil_append] at o1
          refine (refNone_any a w1).mono ?_
          rintro e w2 ⟨rfl, hb2⟩
          have hw1 : w.heap.size + 1 ≤ w1.heap.size := by have := f1.size; omega
          have f2 := f1.trans (hb2.mono hw1)
          have hw2 : w.heap.size + 1 ≤ w2.heap.size := by have := f2.size; omega
          have ba2 := ba1.to hb2
          have o2 := o1.to hb2
          clear g1 b1 f0 bav k0 k1 k2 k3 f1 ba1 o1 hb2
          obtain ⟨-, k0, k1, k2, k3⟩ := acc_cells ba2
          rw [decide_eq_false hno]
          go_wp2_with (first
            | (at_builtin
               refine wpl_push _ _ _ El.acc (cs := #[.int .i64 a.id, .int .i64 a.bal, .int .i64 a.non, .int .i64 a.dat]) rfl rfl rfl o2 rfl rfl (accC_one a) (by omega) (by omega) hw2 ?_
               intro A3 c3 w3 g3 hb3 hg3))
          have o3 := g3.own
          have hone : one_if a = [a] := by unfold one_if; rw [if_neg hno]
          have HONE := Lib.hid hone
          rw [show A4 (s.take 0) ++ (#[.int .i64 a.id, .int .i64 a.bal, .int .i64 a.non, .int .i64 a.dat] : Array Value).toList = A4 (s.take 0 ++ one_if a) from by rw [hone, A4_app]; rfl] at o3
          have f3 := f2.trans hb3
          have ba3 := ba2.below hb3 (by omega)
          clear hone g3 hg3 hb3 o2 k0 k1 k2 k3
          have fD : Below (w.heap.size + 1) W w3.drew := f3.drew
          have oD : Own w3.drew (w.heap.size + 1) 23 4 A3 (0 + 1) c3 (A4 (s.take 0 ++ one_if a)) := o3
          go_wp2_with fail
          refine wp_region_E [(0, true), (1, true), (2, true), (3, true), (4, true), (5, true), (6, true), (7, true), (8, true), (9, true), (10, true), (11, true), (12, true), (13, true)] (by kernel_rfl) (by kernel_rfl) (by kernel_rfl) (by decide) (by intro d v c a w h; cases d <;> exact h) ?_
          repeat (first | (refine wpC_eq (v := ?_) rfl (by rfl) ?_ ?_; rotate_left; (· (go_simp; try with_reducible rfl)); simp only [Act.put, List.setIfInBounds_toArray, List.set_cons_zero, List.set_cons_succ]) | (refine wpC_skip rfl (by rfl) ?_; simp only [Act.put, List.setIfInBounds_toArray, List.set_cons_zero, List.set_cons_succ]))
          refine wpC_nil ?_
          generalize w3.drew = Y at *
          have hput := put_at s a 0 hlow.out (by rw [HLN.out]; exact hq) (by intro y hy; rw [HX.out] at hy; cases hy)
          rw [HX.out] at hput
          simp only [List.append_nil] at hput
          have HPUT : Hid (A4 (putS s a) = A4 (s.take 0 ++ one_if a) ++ []) := (show _ = _ by rw [hput, List.append_nil])
          have hY : w.heap.size + 1 ≤ Y.heap.size := by have := fD.size; omega
          clear hput
          have slK : ∀ A', Sl Y 4 A' 0 [] := fun A' => ⟨rfl, fun h => absurd h (by omega)⟩
          by_cases hck : c = 0
          · subst hck
            go_wp2_with (first
              | (at_builtin
                 refine wpl_app _ _ _ _ El.acc rfl rfl rfl oD rfl (slK _) (by simp) (by omega) (by omega) hY ?_
                 intro AF cF wF gF))
            have oF := gF.own
            have bF := gF.below oD hY
            go_ret
            rw [← HPUT.out] at oF
            exact RSl.mk (Own.mono (B' := w.heap.size) oF (show w.heap.size ≤ w.heap.size + 1 by omega)) (hbw.trans (Below.mono (fD.trans bF) (show w.heap.size ≤ w.heap.size + 1 by omega)))
          · go_wp2_with (first
              | (at_builtin
                 refine wpl_app _ _ _ _ El.acc rfl rfl rfl oD rfl (slK _) (by simp) (by omega) (by omega) hY ?_
                 intro AF cF wF gF))
            have oF := gF.own
            have bF := gF.below oD hY
            go_ret
            rw [← HPUT.out] at oF
            exact RSl.mk (Own.mono (B' := w.heap.size) oF (show w.heap.size ≤ w.heap.size + 1 by omega)) (hbw.trans (Below.mono (fD.trans bF) (show w.heap.size ≤ w.heap.size + 1 by omega)))
      · obtain ⟨b, o, rfl⟩ := HA.out ad rfl
        go_wp2_with fail
        refine wp_region_E [(0, true), (1, true), (2, true), (3, true), (4, true), (5, true), (6, true), (7, true), (8, true), (9, true), (10, true), (11, true), (12, true), (13, true)] (by kernel_rfl) (by kernel_rfl) (by kernel_rfl) (by decide) (by intro d v c a w h; cases d <;> exact h) ?_
        repeat (first | (refine wpC_eq (v := ?_) rfl (by rfl) ?_ ?_; rotate_left; (· (go_simp; try with_reducible rfl)); simp only [Act.put, List.setIfInBounds_toArray, List.set_cons_zero, List.set_cons_succ]) | (refine wpC_skip rfl (by rfl) ?_; simp only [Act.put, List.setIfInBounds_toArray, List.set_cons_zero, List.set_cons_succ]))
        refine wpC_nil ?_
        have f0 : Below (w.heap.size + 1) W wr.drew := hf.drew
        have bav : Blk wr.drew w.heap.size 23 (accC a) := bar
        have slv := slr.drew
        clear bar hf e0
        generalize wr.drew = V at *
        have slq := slv.front4 (Nat.le_refl _)
        by_cases hno : a.none
        · go_wp2_with (first
            | (at_builtin
               refine wpl_app _ _ _ _ El.acc rfl rfl rfl (Own.made V (w.heap.size + 1) 23 #[] (by have := f0.size; omega) (Nat.zero_le _) rfl) rfl ((slq).alloc _) (A4_one _) (by omega) (by omega) (by have := f0.size; simp; omega) ?_
               intro A1 c1 w1 g1
               have g1 := Lib.hid g1
               have b1 : Below (w.heap.size + 1) V w1 := ((Below.refl _ _).alloc (by have := f0.size; omega) _).trans (g1.out.below (Own.made V (w.heap.size + 1) 23 #[] (by have := f0.size; omega) (Nat.zero_le _) rfl) (by have := f0.size; simp; omega))
               have ba1 := bav.below b1 (by omega)
               have f1 := f0.trans b1
               obtain ⟨-, k0, k1, k2, k3⟩ := acc_cells ba1))
          have o1 := g1.out.own
          simp only [Nat.zero_add, List.nil_append] at o1
          refine (refNone_any a w1).mono ?_
          rintro e w2 ⟨rfl, hb2⟩
          have hw1 : w.heap.size + 1 ≤ w1.heap.size := by have := f1.size; omega
          have f2 := f1.trans (hb2.mono hw1)
          have hw2 : w.heap.size + 1 ≤ w2.heap.size := by have := f2.size; omega
          have ba2 := ba1.to hb2
          have o2 := o1.to hb2
          clear g1 b1 f0 bav k0 k1 k2 k3 f1 ba1 o1 hb2
          obtain ⟨-, k0, k1, k2, k3⟩ := acc_cells ba2
          have hone : one_if a = [] := by unfold one_if; rw [if_pos hno]
          have HONE := Lib.hid hone
          rw [show A4 (s.take q) = A4 (s.take q ++ one_if a) from by rw [hone, List.append_nil]] at o2
          clear hone
          rw [decide_eq_true hno]
          go_wp2_with fail
          have fD : Below (w.heap.size + 1) W w2.drew := f2.drew
          have oD : Own w2.drew (w.heap.size + 1) 23 4 A1 (q) c1 (A4 (s.take q ++ one_if a)) := o2
          go_wp2_with fail
          refine wp_region_E [(0, true), (1, true), (2, true), (3, true), (4, true), (5, true), (6, true), (7, true), (8, true), (9, true), (10, true), (11, true), (12, true), (13, true)] (by kernel_rfl) (by kernel_rfl) (by kernel_rfl) (by decide) (by intro d v c a w h; cases d <;> exact h) ?_
          repeat (first | (refine wpC_eq (v := ?_) rfl (by rfl) ?_ ?_; rotate_left; (· (go_simp; try with_reducible rfl)); simp only [Act.put, List.setIfInBounds_toArray, List.set_cons_zero, List.set_cons_succ]) | (refine wpC_skip rfl (by rfl) ?_; simp only [Act.put, List.setIfInBounds_toArray, List.set_cons_zero, List.set_cons_succ]))
          refine wpC_nil ?_
          generalize w2.drew = Y at *
          have hput := put_at s a q hlow.out (by rw [HLN.out]; exact hq) (by intro y hy; rw [HX.out] at hy; cases hy)
          rw [HX.out] at hput
          simp only [List.append_nil] at hput
          have HPUT : Hid (A4 (putS s a) = A4 (s.take q ++ one_if a) ++ []) := (show _ = _ by rw [hput, List.append_nil])
          have hY : w.heap.size + 1 ≤ Y.heap.size := by have := fD.size; omega
          clear hput
          have slK : ∀ A', Sl Y 4 A' 0 [] := fun A' => ⟨rfl, fun h => absurd h (by omega)⟩
          by_cases hck : c = q
          · subst hck
            go_wp2_with (first
              | (at_builtin
                 refine wpl_app _ _ _ _ El.acc rfl rfl rfl oD rfl (slK _) (by simp) (by omega) (by omega) hY ?_
                 intro AF cF wF gF))
            have oF := gF.own
            have bF := gF.below oD hY
            go_ret
            rw [← HPUT.out] at oF
            exact RSl.mk (Own.mono (B' := w.heap.size) oF (show w.heap.size ≤ w.heap.size + 1 by omega)) (hbw.trans (Below.mono (fD.trans bF) (show w.heap.size ≤ w.heap.size + 1 by omega)))
          · go_wp2_with (first
              | (at_builtin
                 refine wpl_app _ _ _ _ El.acc rfl rfl rfl oD rfl (slK _) (by simp) (by omega) (by omega) hY ?_
                 intro AF cF wF gF))
            have oF := gF.own
            have bF := gF.below oD hY
            go_ret
            rw [← HPUT.out] at oF
            exact RSl.mk (Own.mono (B' := w.heap.size) oF (show w.heap.size ≤ w.heap.size + 1 by omega)) (hbw.trans (Below.mono (fD.trans bF) (show w.heap.size ≤ w.heap.size + 1 by omega)))
        · go_wp2_with (first
            | (at_builtin
               refine wpl_app _ _ _ _ El.acc rfl rfl rfl (Own.made V (w.heap.size + 1) 23 #[] (by have := f0.size; omega) (Nat.zero_le _) rfl) rfl ((slq).alloc _) (A4_one _) (by omega) (by omega) (by have := f0.size; simp; omega) ?_
               intro A1 c1 w1 g1
               have g1 := Lib.hid g1
               have b1 : Below (w.heap.size + 1) V w1 := ((Below.refl _ _).alloc (by have := f0.size; omega) _).trans (g1.out.below (Own.made V (w.heap.size + 1) 23 #[] (by have := f0.size; omega) (Nat.zero_le _) rfl) (by have := f0.size; simp; omega))
               have ba1 := bav.below b1 (by omega)
               have f1 := f0.trans b1
               obtain ⟨-, k0, k1, k2, k3⟩ := acc_cells ba1))
          have o1 := g1.out.own
          simp only [Nat.zero_add, List.nil_append] at o1
          refine (refNone_any a w1).mono ?_
          rintro e w2 ⟨rfl, hb2⟩
          have hw1 : w.heap.size + 1 ≤ w1.heap.size := by have := f1.size; omega
          have f2 := f1.trans (hb2.mono hw1)
          have hw2 : w.heap.size + 1 ≤ w2.heap.size := by have := f2.size; omega
          have ba2 := ba1.to hb2
          have o2 := o1.to hb2
          clear g1 b1 f0 bav k0 k1 k2 k3 f1 ba1 o1 hb2
          obtain ⟨-, k0, k1, k2, k3⟩ := acc_cells ba2
          rw [decide_eq_false hno]
          go_wp2_with (first
            | (at_builtin
               refine wpl_push _ _ _ El.acc (cs := #[.int .i64 a.id, .int .i64 a.bal, .int .i64 a.non, .int .i64 a.dat]) rfl rfl rfl o2 rfl rfl (accC_one a) (by omega) (by omega) hw2 ?_
               intro A3 c3 w3 g3 hb3 hg3))
          have o3 := g3.own
          have hone : one_if a = [a] := by unfold one_if; rw [if_neg hno]
          have HONE := Lib.hid hone
          rw [show A4 (s.take q) ++ (#[.int .i64 a.id, .int .i64 a.bal, .int .i64 a.non, .int .i64 a.dat] : Array Value).toList = A4 (s.take q ++ one_if a) from by rw [hone, A4_app]; rfl] at o3
          have f3 := f2.trans hb3
          have ba3 := ba2.below hb3 (by omega)
          clear hone g3 hg3 hb3 o2 k0 k1 k2 k3
          have fD : Below (w.heap.size + 1) W w3.drew := f3.drew
          have oD : Own w3.drew (w.heap.size + 1) 23 4 A3 (q + 1) c3 (A4 (s.take q ++ one_if a)) := o3
          go_wp2_with fail
          refine wp_region_E [(0, true), (1, true), (2, true), (3, true), (4, true), (5, true), (6, true), (7, true), (8, true), (9, true), (10, true), (11, true), (12, true), (13, true)] (by kernel_rfl) (by kernel_rfl) (by kernel_rfl) (by decide) (by intro d v c a w h; cases d <;> exact h) ?_
          repeat (first | (refine wpC_eq (v := ?_) rfl (by rfl) ?_ ?_; rotate_left; (· (go_simp; try with_reducible rfl)); simp only [Act.put, List.setIfInBounds_toArray, List.set_cons_zero, List.set_cons_succ]) | (refine wpC_skip rfl (by rfl) ?_; simp only [Act.put, List.setIfInBounds_toArray, List.set_cons_zero, List.set_cons_succ]))
          refine wpC_nil ?_
          generalize w3.drew = Y at *
          have hput := put_at s a q hlow.out (by rw [HLN.out]; exact hq) (by intro y hy; rw [HX.out] at hy; cases hy)
          rw [HX.out] at hput
          simp only [List.append_nil] at hput
          have HPUT : Hid (A4 (putS s a) = A4 (s.take q ++ one_if a) ++ []) := (show _ = _ by rw [hput, List.append_nil])
          have hY : w.heap.size + 1 ≤ Y.heap.size := by have := fD.size; omega
          clear hput
          have slK : ∀ A', Sl Y 4 A' 0 [] := fun A' => ⟨rfl, fun h => absurd h (by omega)⟩
          by_cases hck : c = q
          · subst hck
            go_wp2_with (first
              | (at_builtin
                 refine wpl_app _ _ _ _ El.acc rfl rfl rfl oD rfl (slK _) (by simp) (by omega) (by omega) hY ?_
                 intro AF cF wF gF))
            have oF := gF.own
            have bF := gF.below oD hY
            go_ret
            rw [← HPUT.out] at oF
            exact RSl.mk (Own.mono (B' := w.heap.size) oF (show w.heap.size ≤ w.heap.size + 1 by omega)) (hbw.trans (Below.mono (fD.trans bF) (show w.heap.size ≤ w.heap.size + 1 by omega)))
          · go_wp2_with (first
              | (at_builtin
                 refine wpl_app _ _ _ _ El.acc rfl rfl rfl oD rfl (slK _) (by simp) (by omega) (by omega) hY ?_
                 intro AF cF wF gF))
            have oF := gF.own
            have bF := gF.below oD hY
            go_ret
            rw [← HPUT.out] at oF
            exact RSl.mk (Own.mono (B' := w.heap.size) oF (show w.heap.size ≤ w.heap.size + 1 by omega)) (hbw.trans (Below.mono (fD.trans bF) (show w.heap.size ≤ w.heap.size + 1 by omega)))
end Go.Proofs.Ytakebmpnbdlcoaa
/- Walks: the law's states (capstanlaw7.Of), its within. -/
set_option linter.unusedSimpArgs false
set_option linter.unusedVariables false
namespace Go.Proofs.Ytakebmpnbdlcoaa
open Go.RowKit
set_option maxRecDepth 100000
theorem within_capstanlaw7 (a n : Int) (w : World) (hn : 0 < n) (hn2 : n < 1099511627776) (ha : -9223372036854775808 ≤ a) (ha2 : a < 9223372036854775808) :
    Calls Try.prog 16 #[.int .i64 a, .int .i64 n] w fun e w' => e = .returned (.int .i64 (a % n)) ∧ w = w' := by
  have e1 : a % n = if a.tmod n < 0 then a.tmod n + n else a.tmod n := by
    rw [Int.tmod_eq_emod]
    have := Int.emod_nonneg a (show n ≠ 0 by omega)
    have := Int.emod_lt_of_pos a hn
    have hnn : (n.natAbs : Int) = n := by omega
    split <;> split <;> omega
  have b1 : -n < a.tmod n := by have := Int.lt_tmod_of_pos a hn; omega
  have b2 : a.tmod n < n := Int.tmod_lt_of_pos a hn
  have H := Lib.hid e1
  clear e1
  by_cases h : a.tmod n < 0
  · go_enter Try.func16, Try.ntmps16
    go_wp2
    go_ret
    exact ⟨ret_int (by rw [H.out, if_pos h]), rfl⟩
  · go_enter Try.func16, Try.ntmps16
    go_wp2
    go_ret
    exact ⟨ret_int (by rw [H.out, if_neg (Int.not_lt.2 h)]), rfl⟩
theorem sorted_len : ∀ (s : List Acc) (lo : Int), s.Pairwise (fun x y => x.id < y.id) → (∀ x ∈ s, lo ≤ x.id ∧ x.id < 256) → lo ≤ 256 → (s.length : Int) ≤ 256 - lo
  | [], lo, _, _, h => by simp; omega
  | x :: s, lo, h1, h2, h3 => by
    have hp := List.pairwise_cons.1 h1
    have hx := h2 x (by simp)
    have := sorted_len s (x.id + 1) hp.2 (fun y hy => ⟨by have := hp.1 y hy; omega, (h2 y (by simp [hy])).2⟩) (by omega)
    simp
    omega
theorem St.len {s : List Acc} (h : St s) : s.length ≤ 256 := by
  have := sorted_len s 0 h.sorted h.ids (by omega)
  omega
/-- small numbers -/
structure Acc.small (a : Acc) : Prop where
  bal : 0 ≤ a.bal ∧ a.bal ≤ 1000
  non : 0 ≤ a.non ∧ a.non ≤ 1000
  dat : -1000 ≤ a.dat ∧ a.dat ≤ 1000
/-- a slice value that reads as a state -/
def StV (w : World) (v : Value) (s : List Acc) : Prop := ∃ A n c, v = .slice A n c ∧ Sl w 4 A n (A4 s) ∧ s.length = n ∧ n ≤ c ∧ (∀ ad, A = some ad → ∃ b o, ad = ⟨b, o, none⟩)
theorem StV.nil_ (w : World) : StV w (.slice none 0 0) [] := ⟨none, 0, 0, rfl, Sl.nil_, rfl, Nat.le_refl _, fun _ h => by cases h⟩
theorem StV.to {w w' : World} {v : Value} {s : List Acc} (h : StV w v s) (hb : Below w.heap.size w w') : StV w' v s := by
  obtain ⟨A, n, c, e, sl, h2, h3, h4⟩ := h
  exact ⟨A, n, c, e, sl.to hb, h2, h3, h4⟩
theorem StV.drew {w : World} {v : Value} {s : List Acc} (h : StV w v s) : StV w.drew v s := by
  obtain ⟨A, n, c, e, sl, h2, h3, h4⟩ := h
  exact ⟨A, n, c, e, sl.drew, h2, h3, h4⟩
theorem StV.own {w : World} {B n c : Nat} {e : TypeId} {A : Option Addr} {s : List Acc} (h : Own w B e 4 A n c (A4 s)) : StV w (.slice A n c) s := by
  refine ⟨A, n, c, rfl, h.sl, ?_, h.le.1, ?_⟩
  · have := h.len
    rw [A4_len] at this
    omega
  · intro ad had
    rcases h.2 with ⟨hv, _⟩ | ⟨g, cap, cur, hv, _⟩
    · injection hv with h1
      rw [h1] at had
      cases had
    · injection hv with h1
      rw [h1] at had
      injection had with had
      exact ⟨g, 0, had.symm⟩
theorem stPut_any (v : Value) (s : List Acc) (a : Acc) (w : World) (h : StV w v s) (hs : St s) :
    Calls Try.prog 20 #[v, accV a] w fun e w' => ∃ v', e = .returned v' ∧ StV w' v' (putS s a) ∧ Below w.heap.size w w' := by
  obtain ⟨A, n, c, rfl, sl, h2, h3, h4⟩ := h
  refine (refPut_any A n c s a w sl h2 (by have := hs.len; omega) h3 h4).mono ?_
  rintro e w' ⟨A', n', c', rfl, ho, hb⟩
  exact ⟨_, rfl, StV.own ho, hb⟩
theorem small_put {s : List Acc} (hs : St s) (h : ∀ x ∈ s, x.small) {a : Acc} (ha : a.small) : ∀ x ∈ putS s a, x.small := by
  intro x hx
  rcases (mem_put s a hs x).1 hx with ⟨rfl, _⟩ | ⟨h2, _⟩
  · exact ha
  · exact h x h2
theorem wf_of_small {a : Acc} (h1 : 0 ≤ a.id ∧ a.id < 256) (h : a.small) : a.wf := ⟨by omega, by have := h.bal; omega, by have := h.non; omega, by have := h.dat; omega⟩
theorem st_wf {s : List Acc} (hs : St s) (h : ∀ x ∈ s, x.small) : ∀ x ∈ s, x.wf := fun x hx => wf_of_small (hs.ids x hx) (h x hx)
theorem tdiv_bd (a n : Int) (hn : 0 < n) (h1 : -9223372036854775808 ≤ a) (h2 : a < 9223372036854775808) : -9223372036854775808 ≤ a.tdiv n ∧ a.tdiv n < 9223372036854775808 := by
  have key : ∀ b : Int, 0 ≤ b → 0 ≤ b.tdiv n ∧ b.tdiv n ≤ b := fun b hb => by
    rw [Int.tdiv_eq_ediv_of_nonneg hb]
    exact ⟨Int.ediv_nonneg hb (by omega), Int.ediv_le_self n hb⟩
  by_cases ha : 0 ≤ a
  · have := key a ha
    omega
  · have h3 := key (-a) (by omega)
    rw [Int.neg_tdiv] at h3
    omega
set_option maxRecDepth 100000 in
set_option maxHeartbeats 4000000 in
theorem of_any (A : Option Addr) (n c : Nat) (z : List Int) (w : World) (sl : Sl w 1 A n (z.map (Value.int .i64))) (hz : ∀ x ∈ z, -9223372036854775808 ≤ x ∧ x < 9223372036854775808) (hn : n ≤ 9223372036854775807) :
    Calls Try.prog 19 #[.slice A n c] w fun e w' => ∃ v s, e = .returned v ∧ StV w' v s ∧ St s ∧ (∀ x ∈ s, x.small) ∧ Below w.heap.size w w' := by
  have hzl : z.length = n := by have := sl.len; simp at this; omega
  have HZL := Lib.hid hzl
  have HZ := Lib.hid hz
  clear hzl hz
  go_enter Try.func19, Try.ntmps19
  go_wp2_with fail
  go_loopw [3, 4] (fun v k wr => ∃ (q : Nat) (s : List Acc), k = .int .i64 (q : Int) ∧ q ≤ n ∧ q ≤ 20 ∧ StV wr v s ∧ Hid (St s) ∧ Hid (∀ x ∈ s, x.small) ∧ Below w.heap.size w wr) (fun _ k _ => n - (intOf k).toNat)
  case atStart => exact ⟨0, [], rfl, Nat.zero_le _, Nat.zero_le _, StV.nil_ w, St.nil_, (show ∀ x ∈ ([] : List Acc), _ by simp), Below.refl _ _⟩
  case round =>
    obtain ⟨q, s, rfl, hq, hq20, hv0, hs, hsm, hb⟩ := hrel
    by_cases hlt : q < n ∧ q < 20
    · obtain ⟨h1, h2⟩ := hlt
      have t1 : (q : Int) < (n : Int) := by omega
      have t2 : (q : Int) < 20 := by omega
      obtain ⟨x, hx⟩ : ∃ x, z[q]? = some x := ⟨_, List.getElem?_eq_getElem (by rw [HZL.out]; exact h1)⟩
      obtain ⟨xlo, xhi⟩ := HZ.out x (List.mem_of_getElem? hx)
      obtain ⟨b, o, rfl, hbb⟩ := sl.some_ (by omega)
      have cx : wr.cell? ⟨b, o + q, none⟩ = some (.int .i64 x) := (sl.to hb).cell (by rw [List.getElem?_map, hx]; rfl)
      clear hx
      obtain ⟨klo, khi⟩ := tdiv_bd x 16 (by decide) xlo xhi
      obtain ⟨k, hk⟩ : ∃ k, x.tdiv 16 = k := ⟨_, rfl⟩
      rw [hk] at klo khi
      obtain ⟨k3lo, k3hi⟩ := tdiv_bd k 3 (by decide) klo khi
      obtain ⟨k3, hk3⟩ : ∃ j, k.tdiv 3 = j := ⟨_, rfl⟩
      rw [hk3] at k3lo k3hi
      obtain ⟨k7lo, k7hi⟩ := tdiv_bd k 7 (by decide) klo khi
      obtain ⟨k7, hk7⟩ : ∃ j, k.tdiv 7 = j := ⟨_, rfl⟩
      rw [hk7] at k7lo k7hi
      have k5hi := Int.tmod_lt_of_pos k (show (0 : Int) < 5 by decide)
      have k5lo := Int.lt_tmod_of_pos k (show (0 : Int) < 5 by decide)
      obtain ⟨k5, hk5⟩ : ∃ j, k.tmod 5 = j := ⟨_, rfl⟩
      rw [hk5] at k5lo k5hi
      go_wp2_with (first
        | (refine (within_capstanlaw7 _ _ _ (by omega) (by omega) (by omega) (by omega)).mono ?_
           rintro e w' ⟨rfl, rfl⟩))
      have HS : Hid (Acc.small ⟨(x % 16 * 37 + k % 3) % 256, k3 % 50, k7 % 3, k5⟩) := (show Acc.small _ from ⟨by constructor <;> (show _ ≤ _) <;> simp only [] <;> omega, by constructor <;> (show _ ≤ _) <;> simp only [] <;> omega, by constructor <;> (show _ ≤ _) <;> simp only [] <;> omega⟩)
      refine (stPut_any _ s ⟨(x % 16 * 37 + k % 3) % 256, k3 % 50, k7 % 3, k5⟩ wr hv0 hs.out).mono ?_
      rintro e w2 ⟨v', rfl, hv', hb'⟩
      have hs' := hs.out.put (a := ⟨(x % 16 * 37 + k % 3) % 256, k3 % 50, k7 % 3, k5⟩) (show 0 ≤ (x % 16 * 37 + k % 3) % 256 by omega) (show (x % 16 * 37 + k % 3) % 256 < 256 by omega)
      have hsm' := small_put hs.out hsm.out HS.out
      have hb2 := hb.trans (hb'.mono hb.size)
      have HS' := Lib.hid hs'
      have HSM' := Lib.hid hsm'
      clear hs' hsm' cx
      go_wp2_with fail
      go_roundw
      case rel => exact ⟨q + 1, _, by go_num, by omega, by omega, hv', HS', HSM', hb2⟩
      case measure => simp [intOf]; omega
    · have hc : ¬ q < n ∨ q < n ∧ ¬ q < 20 := by omega
      clear hlt
      rcases hc with h1 | ⟨h1, h2⟩
      · have t1 : ¬ (q : Int) < (n : Int) := by omega
        go_wp2_with fail
        go_ret
        exact ⟨_, rfl, s, hv0, hs.out, hsm.out, hb⟩
      · have t1 : (q : Int) < (n : Int) := by omega
        have t2 : ¬ (q : Int) < 20 := by omega
        go_wp2_with fail
        go_ret
        exact ⟨_, rfl, s, hv0, hs.out, hsm.out, hb⟩
end Go.Proofs.Ytakebmpnbdlcoaa
/- Maps whose elements are sums of 32 bytes: how such an element reads; looked up, stored, ranged over. -/
set_option linter.unusedSimpArgs false
set_option linter.unusedVariables false
namespace Go.Proofs.Ytakebmpnbdlcoaa
open Go.RowKit
set_option maxRecDepth 100000
open Go.Maps (Keyed)
def un8 (v : Value) : Option UInt8 := match v with | .int .u8 n => if 0 ≤ n ∧ n < 256 then some (UInt8.ofNat n.toNat) else none | _ => none
def unL : List Value → Option (List UInt8)
  | [] => some []
  | v :: l => match un8 v, unL l with | some x, some r => some (x :: r) | _, _ => none
theorem un8_mk (c : UInt8) : un8 (b8 c) = some c := by
  have := c.toNat_lt
  unfold un8 b8
  simp
  omega
theorem un8_inv {v : Value} {c : UInt8} (h : un8 v = some c) : v = b8 c := by
  unfold un8 at h
  split at h
  · split at h
    · rename_i n hn
      injection h with h
      subst h
      unfold b8
      rw [UInt8.toNat_ofNat']
      congr 1
      omega
    · cases h
  · cases h
theorem unL_mk : ∀ (l : List UInt8), unL (B8 l) = some l
  | [] => rfl
  | c :: l => by
    show unL (b8 c :: B8 l) = _
    unfold unL
    rw [un8_mk, unL_mk l]
theorem unL_inv : ∀ (vs : List Value) (l : List UInt8), unL vs = some l → vs = B8 l
  | [], l, h => by
    unfold unL at h
    injection h with h
    subst h
    rfl
  | v :: vs, l, h => by
    unfold unL at h
    split at h
    · rename_i x r h1 h2
      injection h with h
      subst h
      rw [un8_inv h1, unL_inv vs r h2]
      rfl
    · cases h
/-- how a sum reads as a map's element -/
def HR (v : Value) : Option (DataW Unit × List MemPlace) := match v with
  | .agg cs => match unL cs.toList with | some g => if g.length = 32 then some (.lit (.string g), []) else none | none => none
  | _ => none
theorem HR_mk {g : List UInt8} (h : g.length = 32) : HR (hv g) = some (.lit (.string g), []) := by
  unfold HR hv
  simp only [unL_mk, h, if_true]
theorem HR_inv {v : Value} {y : DataW Unit × List MemPlace} (h : HR v = some y) : ∃ g : List UInt8, v = hv g ∧ g.length = 32 ∧ y = (.lit (.string g), []) := by
  unfold HR at h
  split at h
  · rename_i cs
    split at h
    · rename_i g hg
      split at h
      · rename_i hl
        injection h with h
        refine ⟨g, ?_, hl, h.symm⟩
        unfold hv
        rw [← unL_inv _ _ hg]
      · cases h
    · cases h
  · cases h
def Z32d : DataW Unit := .lit (.string (List.replicate 32 0))
section
variable {P : Program} {w : World} {k t e : TypeId} {b n : Nat} {D : DataW Unit}
/-- 'm[k]': the sum that stands at the key, or noughts -/
theorem lookup_h (h : w.ownsMap P k HR b n D) (K : Keyed P k) (ht : P.underlying t = some (.map k e)) (hz : (zeroValue e).run P w = .ok (hv (List.replicate 32 0)) w) {key : Value} {kl : Lit} (hkey : keyOf P k key = some kl) :
    ∃ g : List UInt8, g.length = 32 ∧ (Instr.lookup t (.map (some b)) key false).run P w = .ok (hv g) w ∧ D.atKey kl Z32d = .lit (.string g) := by
  obtain ⟨v, ps, hrun, hv'⟩ := h.lookup K ht hz (HR_mk (by simp)) hkey
  obtain ⟨g, rfl, hg, hy⟩ := HR_inv hv'
  simp only [Prod.mk.injEq] at hy
  exact ⟨g, hg, hrun, hy.1⟩
end
theorem Z32d_eq : Z32d = .lit (.string (List.replicate 32 0)) := rfl
section
variable {P : Program} {k t e : TypeId}
/-- what a map holds at each key of a family 'key', noughts where there is none -/
def MapF {α : Type} (P : Program) (k : TypeId) (key : α → Value) (w : World) (b n : Nat) (D : DataW Unit) (f : α → List UInt8) : Prop :=
  w.ownsMap P k HR b n D ∧ ∀ x kl, keyOf P k (key x) = some kl → D.atKey kl Z32d = .lit (.string (f x))
theorem MapF.get {α : Type} {key : α → Value} {w : World} {b n : Nat} {D : DataW Unit} {f : α → List UInt8} (h : MapF P k key w b n D f) (K : Keyed P k) (ht : P.underlying t = some (.map k e)) (hz : (zeroValue e).run P w = .ok (hv (List.replicate 32 0)) w)
    {x : α} {kl : Lit} (hkey : keyOf P k (key x) = some kl) : (f x).length = 32 ∧ (Instr.lookup t (.map (some b)) (key x) false).run P w = .ok (hv (f x)) w := by
  obtain ⟨g, hg, hrun, hat⟩ := lookup_h h.1 K ht hz hkey
  have := h.2 x kl hkey
  rw [hat] at this
  injection this with this
  injection this with this
  subst this
  exact ⟨hg, hrun⟩
/-- 'm[k] = v' -/
theorem MapF.put {α : Type} [DecidableEq α] {key : α → Value} (hinj : ∀ x y, key x = key y → x = y) {w : World} {b n : Nat} {D : DataW Unit} {f : α → List UInt8} (h : MapF P k key w b n D f) (K : Keyed P k) (ht : P.underlying t = some (.map k e)) (hn : n < maxLen)
    {x : α} {kl : Lit} (hkey : keyOf P k (key x) = some kl) {g : List UInt8} (hg : g.length = 32) :
    ∃ w', (Instr.mapUpdate t (.map (some b)) (key x) (hv g)).run P w = .ok () w' ∧ MapF P k key w' b (n + 1) (D.put kl (.lit (.string g))) (fun y => if y = x then g else f y) ∧ w.grownBy w' (some b) := by
  obtain ⟨w', hrun, hown, hgr⟩ := h.1.update K ht hn hkey (HR_mk hg)
  have hmap : Maps.IsMap D := (h.1.tidy K).isMap
  refine ⟨w', hrun, ⟨hown, fun y ly hy => ?_⟩, hgr⟩
  show _ = DataW.lit (Lit.string (if y = x then g else f y))
  by_cases hyx : y = x
  · subst hyx
    rw [if_pos rfl]
    rw [hkey] at hy
    injection hy with hy
    subst hy
    exact Maps.atKey_put_same hmap (K.key hkey) _ _
  · rw [if_neg hyx, Maps.atKey_put_other (fun e => hyx (hinj y x (K.inj hy (by rw [e]; exact hkey))))]
    exact h.2 y ly hy
theorem MapF.new {α : Type} {key : α → Value} (w : World) (P : Program) (k : TypeId) : MapF P k key (w.alloc (.map #[] 0)) w.heap.size 0 (.map []) (fun _ => List.replicate 32 0) :=
  ⟨World.ownsMap_made w P k HR, fun _ _ _ => rfl⟩
theorem MapF.kept {α : Type} {key : α → Value} {w w' : World} {b n : Nat} {D : DataW Unit} {f : α → List UInt8} {row : Option Nat} (h : MapF P k key w b n D f) (hg : w.grownBy w' row) (hne : some b ≠ row) : MapF P k key w' b n D f := ⟨h.1.kept hg hne, h.2⟩
theorem wp_mput {α : Type} [DecidableEq α] {key : α → Value} (hinj : ∀ x y, key x = key y → x = y) {o : Oper} {a : Act} {w : World} {K : Act → World → Prop} {Q : Exit → Act → World → Prop} (m y v : Operand) (hop : o.op = .mapUpdate t m y v)
    (Kd : Keyed P k) (ht : P.underlying t = some (.map k e)) {b n : Nat} {D : DataW Unit} {f : α → List UInt8} (hm : a.eval m = .map (some b)) (h : MapF P k key w b n D f) (hn : n < maxLen) (x : α) (hx : a.eval y = key x) {kl : Lit} (hkey : keyOf P k (key x) = some kl)
    (g : List UInt8) (hg : g.length = 32) (hv' : a.eval v = hv g)
    (hK : ∀ w', MapF P k key w' b (n + 1) (D.put kl (.lit (.string g))) (fun y => if y = x then g else f y) → w.grownBy w' (some b) → K (a.put o.dst undef) w') : o.wp P a w K Q := by
  obtain ⟨w', hrun, h1, h2⟩ := h.put hinj Kd ht hn hkey hg
  unfold Oper.wp
  simp [execOp, hop, hm, hx, hv', hrun, Result.andThen]
  exact hK w' h1 h2
theorem wp_mget {α : Type} {key : α → Value} {o : Oper} {a : Act} {w : World} {K : Act → World → Prop} {Q : Exit → Act → World → Prop} (m y : Operand) (hop : o.op = .lookup t m y false)
    (Kd : Keyed P k) (ht : P.underlying t = some (.map k e)) (hz : (zeroValue e).run P w = .ok (hv (List.replicate 32 0)) w) {b n : Nat} {D : DataW Unit} {f : α → List UInt8} (hm : a.eval m = .map (some b)) (h : MapF P k key w b n D f) (x : α) (hx : a.eval y = key x) {kl : Lit} (hkey : keyOf P k (key x) = some kl)
    (hK : (f x).length = 32 → K (a.put o.dst (hv (f x))) w) : o.wp P a w K Q := by
  obtain ⟨hg, hrun⟩ := h.get Kd ht hz hkey
  unfold Oper.wp
  simp [execOp, hop, hm, hx, hrun, Result.andThen]
  exact hK hg
end
end Go.Proofs.Ytakebmpnbdlcoaa
/- Plain law of tree.grow's rounds: what stands above is filled in whatever order. -/
set_option linter.unusedSimpArgs false
set_option linter.unusedVariables false
namespace Go.Proofs.Ytakebmpnbdlcoaa
/-- the level above, at each place -/
def upF (f : Nat → List UInt8) (q : Nat) : List UInt8 := overS (f (2 * q)) (f (2 * q + 1))
/-- half way: each place above is filled, or is noughts and each of its two below that is there is still to come -/
def HalfUp (f g : Nat → List UInt8) (has left : Nat → Prop) : Prop := ∀ q, g q = upF f q ∨ (g q = zero32 ∧ ∀ c, c / 2 = q → has c → left c)
theorem halfUp_start (f : Nat → List UInt8) (has : Nat → Prop) : HalfUp f (fun _ => zero32) has has := fun _ => .inr ⟨rfl, fun _ _ h => h⟩
theorem halfUp_step {f g : Nat → List UInt8} {has left left' : Nat → Prop} {x : Nat} (h : HalfUp f g has left) (hl : ∀ c, c ≠ x → left c → left' c) : HalfUp f (fun q => if q = x / 2 then upF f q else g q) has left' := by
  intro q
  by_cases hq : q = x / 2
  · left
    show (if q = x / 2 then upF f q else g q) = _
    rw [if_pos hq]
  · show (if q = x / 2 then upF f q else g q) = _ ∨ ((if q = x / 2 then upF f q else g q) = _ ∧ _)
    rw [if_neg hq]
    rcases h q with h1 | ⟨h1, h2⟩
    · exact .inl h1
    · exact .inr ⟨h1, fun c hc hh => hl c (by intro e; subst e; exact hq hc.symm) (h2 c hc hh)⟩
theorem overS_zero : overS zero32 zero32 = zero32 := by unfold overS; rw [if_pos ⟨rfl, rfl⟩]
theorem halfUp_end {f g : Nat → List UInt8} {has left : Nat → Prop} (h : HalfUp f g has left) (hnone : ∀ c, ¬ left c) (hf : ∀ c, ¬ has c → f c = zero32) : g = upF f := by
  funext q
  rcases h q with h1 | ⟨h1, h2⟩
  · exact h1
  · rw [h1]
    unfold upF
    rw [hf (2 * q) (fun hh => hnone _ (h2 (2 * q) (by omega) hh)), hf (2 * q + 1) (fun hh => hnone _ (h2 (2 * q + 1) (by omega) hh)), overS_zero]
/-- all sums of one level, half way -/
def HalfM (f g : Nat → List UInt8) (has left : Nat → Prop) : Prop := ∀ c, g c = f c ∨ (g c = zero32 ∧ (has c → left c))
theorem halfM_start (f : Nat → List UInt8) (has : Nat → Prop) : HalfM f (fun _ => zero32) has has := fun _ => .inr ⟨rfl, fun h => h⟩
theorem halfM_step {f g : Nat → List UInt8} {has left left' : Nat → Prop} {x : Nat} (h : HalfM f g has left) (hl : ∀ c, c ≠ x → left c → left' c) : HalfM f (fun c => if c = x then f c else g c) has left' := by
  intro c
  by_cases hc : c = x
  · left
    show (if c = x then f c else g c) = _
    rw [if_pos hc]
  · show (if c = x then f c else g c) = _ ∨ ((if c = x then f c else g c) = _ ∧ _)
    rw [if_neg hc]
    rcases h c with h1 | ⟨h1, h2⟩
    · exact .inl h1
    · exact .inr ⟨h1, fun hh => hl c hc (h2 hh)⟩
theorem halfM_end {f g : Nat → List UInt8} {has left : Nat → Prop} (h : HalfM f g has left) (hnone : ∀ c, ¬ left c) (hf : ∀ c, ¬ has c → f c = zero32) : g = f := by
  funext c
  rcases h c with h1 | ⟨h1, h2⟩
  · exact h1
  · rw [h1, hf c (fun hh => hnone _ (h2 hh))]
/-- a level as a function of places -/
def levF (l : List (List UInt8)) (k : Nat) (c : Nat) : List UInt8 := (lev k l).getD c zero32
theorem levF_up (l : List (List UInt8)) (k j : Nat) (hl : l.length = 2 ^ (k + j + 1)) : levF l (k + 1) = upF (levF l k) := by
  have hlen := lev_len k (j + 1) l (by rw [hl]; congr 1)
  funext q
  unfold levF upF
  show (halve (lev k l)).getD q zero32 = overS ((lev k l).getD (2 * q) zero32) ((lev k l).getD (2 * q + 1) zero32)
  by_cases hq : 2 * q + 1 < (lev k l).length
  · rw [halve_at _ _ hq]
  · have hp : 2 * 2 ^ j = 2 ^ (j + 1) := by rw [Nat.pow_succ]; omega
    have h1 : (halve (lev k l)).getD q zero32 = zero32 := by
      rw [List.getD_eq_getElem?_getD, List.getElem?_eq_none (by rw [halve_len]; omega)]
      rfl
    have h2 : (lev k l).getD (2 * q) zero32 = zero32 := by
      rw [List.getD_eq_getElem?_getD, List.getElem?_eq_none (by omega)]
      rfl
    have h3 : (lev k l).getD (2 * q + 1) zero32 = zero32 := by
      rw [List.getD_eq_getElem?_getD, List.getElem?_eq_none (by omega)]
      rfl
    rw [h1, h2, h3, overS_zero]
end Go.Proofs.Ytakebmpnbdlcoaa
/- Maps of sums by numbers and by places: what tree.grow's maps hold; the steps of a range over one. -/
set_option linter.unusedSimpArgs false
set_option linter.unusedVariables false
namespace Go.Proofs.Ytakebmpnbdlcoaa
open Go.RowKit
set_option maxRecDepth 100000
open Go.Maps (Keyed)
def ik (x : Nat) : Value := .int .i64 (x : Int)
theorem ik_inj (x y : Nat) (h : ik x = ik y) : x = y := by
  unfold ik at h
  injection h with h1 h2
  omega
theorem keyed_int : Keyed Try.prog 3 := Go.Maps.int_keyed Try.underlying3
theorem wf_ik {x : Nat} (h : x < 9223372036854775808) : (Lit.int .i64 (x : Int)).wf = true := WalkArith.wf_i64 (by omega)
theorem keyOf_ik {x : Nat} (h : x < 9223372036854775808) : keyOf Try.prog 3 (ik x) = some (.int .i64 (x : Int)) := Go.Maps.keyOf_int_mk Try.underlying3 (wf_ik h)
/-- a map by numbers below N -/
def Row (w : World) (b n : Nat) (D : DataW Unit) (f : Nat → List UInt8) (N : Nat) : Prop :=
  MapF Try.prog 3 ik w b n D f ∧ ∀ kl, Maps.has D kl = true → ∃ x : Nat, x < N ∧ kl = .int .i64 (x : Int)
theorem Row.new (w : World) (N : Nat) : Row (w.alloc (.map #[] 0)) w.heap.size 0 (.map []) (fun _ => List.replicate 32 0) N := ⟨MapF.new w _ _, fun kl h => by cases h⟩
theorem Row.kept {w w' : World} {b n : Nat} {D : DataW Unit} {f : Nat → List UInt8} {N : Nat} {row : Option Nat} (h : Row w b n D f N) (hg : w.grownBy w' row) (hne : some b ≠ row) : Row w' b n D f N := ⟨h.1.kept hg hne, h.2⟩
theorem Row.lt {w : World} {b n : Nat} {D : DataW Unit} {f : Nat → List UInt8} {N : Nat} (h : Row w b n D f N) : b < w.heap.size := h.1.1.lt
theorem Row.map {w : World} {b n : Nat} {D : DataW Unit} {f : Nat → List UInt8} {N : Nat} (h : Row w b n D f N) : Maps.IsMap D := (h.1.1.tidy keyed_int).isMap
theorem Row.put {w w' : World} {b n : Nat} {D : DataW Unit} {f : Nat → List UInt8} {N x : Nat} {g : List UInt8} (h : Row w b n D f N) (hx : x < N) (hN : N ≤ 1099511627776)
    (h2 : MapF Try.prog 3 ik w' b (n + 1) (D.put (.int .i64 (x : Int)) (.lit (.string g))) (fun y => if y = x then g else f y)) :
    Row w' b (n + 1) (D.put (.int .i64 (x : Int)) (.lit (.string g))) (fun y => if y = x then g else f y) N :=
  ⟨h2, fun kl hk => by
    by_cases e : kl = .int .i64 (x : Int)
    · exact ⟨x, hx, e⟩
    · rw [Maps.has_put_other e] at hk
      exact h.2 kl hk⟩
section
variable {P : Program} {k t e : TypeId} {ops : Array Oper} {rest : List Oper}
theorem wpl_mput {α : Type} [DecidableEq α] {key : α → Value} (hinj : ∀ x y, key x = key y → x = y) {o : Oper} {a : Act} {w : World} {Q : Exit → Act → World → Prop} (hw : Region.wanted o (yielded ops a.tmps) = true) (m y v : Operand) (hop : o.op = .mapUpdate t m y v)
    (Kd : Keyed P k) (ht : P.underlying t = some (.map k e)) {b n : Nat} {D : DataW Unit} {f : α → List UInt8} (hm : a.eval m = .map (some b)) (h : MapF P k key w b n D f) (hn : n < maxLen) (x : α) (hx : a.eval y = key x) {kl : Lit} (hkey : keyOf P k (key x) = some kl)
    (g : List UInt8) (hg : g.length = 32) (hv' : a.eval v = hv g)
    (hK : ∀ w', MapF P k key w' b (n + 1) (D.put kl (.lit (.string g))) (fun y => if y = x then g else f y) → w.grownBy w' (some b) → wpList P ops Q rest (a.put o.dst undef) w') : wpList P ops Q (o :: rest) a w :=
  wpList_wanted hw (wp_mput hinj m y v hop Kd ht hm h hn x hx hkey g hg hv' hK)
theorem wpl_mget {α : Type} {key : α → Value} {o : Oper} {a : Act} {w : World} {Q : Exit → Act → World → Prop} (hw : Region.wanted o (yielded ops a.tmps) = true) (m y : Operand) (hop : o.op = .lookup t m y false)
    (Kd : Keyed P k) (ht : P.underlying t = some (.map k e)) (hz : (zeroValue e).run P w = .ok (hv (List.replicate 32 0)) w) {b n : Nat} {D : DataW Unit} {f : α → List UInt8} (hm : a.eval m = .map (some b)) (h : MapF P k key w b n D f) (x : α) (hx : a.eval y = key x) {kl : Lit} (hkey : keyOf P k (key x) = some kl)
    (hK : (f x).length = 32 → wpList P ops Q rest (a.put o.dst (hv (f x))) w) : wpList P ops Q (o :: rest) a w :=
  wpList_wanted hw (wp_mget m y hop Kd ht hz hm h x hx hkey hK)
end
theorem zero_h (w : World) : (zeroValue 27).run Try.prog w = .ok (hv (List.replicate 32 0)) w := by kernel_rfl
/-- the step of a range over a map by numbers -/
theorem wpl_next_h {ops : Array Oper} {rest : List Oper} {o : Oper} {a : Act} {w : World} {Q : Exit → Act → World → Prop} (hg : o.guard = none) (it : Operand) (hop : o.op = Op.next it false)
    (b r n : Nat) (D : DataW Unit) (f : Nat → List UInt8) (N : Nat) (hN : N ≤ 1099511627776) (left : Lit → Bool) (cnt : Nat) (hit : a.eval it = .pointer (some ⟨r, 0, none⟩)) (h : w.ranges Try.prog 3 HR b r n D left cnt) (hrow : Row w b n D f N)
    (hDone : cnt = 0 → (∀ kl, left kl = false) → wpList Try.prog ops Q rest (a.put o.dst (.tuple #[.bool false])) w)
    (hMore : ∀ (x : Nat) (w' : World) (cnt' : Nat), x < N → left (.int .i64 (x : Int)) = true → (f x).length = 32 → w'.ranges Try.prog 3 HR b r n D (fun z => left z && !z.sameKey (.int .i64 (x : Int))) cnt' → cnt' < cnt →
      w.grownBy w' (some r) → w'.heap.size = w.heap.size → (Instr.entry (.pointer (some ⟨r, 0, none⟩))).run Try.prog w' = .ok (.tuple #[.int .i64 (x : Int), hv (f x)]) w' → wpList Try.prog ops Q rest (a.put o.dst (.tuple #[.bool true, .int .i64 (x : Int), hv (f x)])) w') :
    wpList Try.prog ops Q (o :: rest) a w := by
  refine wpList_next_ranges w hg it hop 3 keyed_int HR (Value.int .i64) (fun g : List UInt8 => hv g) (fun key kl hkey => by obtain ⟨x, rfl, _⟩ := Maps.keyOf_int_inv Try.underlying3 hkey; exact ⟨x, rfl⟩) (fun v y hv' => by obtain ⟨g, rfl, _⟩ := HR_inv hv'; exact ⟨g, rfl⟩)
    b r n D left cnt hit h hDone ?_
  intro x c kl y w' cnt' hkey hl hR hat hrg hlt hgr hsz hen
  obtain ⟨x', ex, rfl, hwx⟩ := Maps.keyOf_int_inv Try.underlying3 hkey
  injection ex with _ ex
  subst ex
  obtain ⟨q, hq, hqe⟩ := hrow.2 _ (Maps.has_true_of_atKey hat)
  injection hqe with _ hqe
  subst hqe
  obtain ⟨g, hge, hgl, rfl⟩ := HR_inv hR
  have h1 := hrow.1.2 q _ (keyOf_ik (by omega))
  rw [hat] at h1
  injection h1 with h1
  injection h1 with h1
  rw [hge] at hen ⊢
  rw [h1] at hgl hen ⊢
  exact hMore q w' cnt' hq hl hgl hrg hlt hgr hsz hen
/-! ### by places -/
def pk (p : Nat × Nat) : Value := .agg #[.int .i64 (p.1 : Int), .int .i64 (p.2 : Int)]
theorem pk_inj (x y : Nat × Nat) (h : pk x = pk y) : x = y := by
  unfold pk at h
  injection h with h
  injection h with h
  injection h with h1 h2
  injection h2 with h2 _
  injection h1 with _ h1
  injection h2 with _ h2
  exact Prod.ext (by omega) (by omega)
theorem keyed_place : Keyed Try.prog 74 := Keyed.of_law (deep_law_laid (by kernel_rfl) (m := 3) (by omega) (of_decide_eq_true (by kernel_rfl)) (by kernel_rfl) (by rw [Try.underlying74]))
theorem keyOf_pk (p : Nat × Nat) (h1 : p.1 < 9223372036854775808) (h2 : p.2 < 9223372036854775808) : ∃ kl, keyOf Try.prog 74 (pk p) = some kl := by
  obtain ⟨N, hN⟩ : ∃ N, Try.prog.types.size + 1 = N + 2 := ⟨Try.prog.types.size - 1, by have : 1 ≤ Try.prog.types.size := of_decide_eq_true (by kernel_rfl); omega⟩
  have hf : (pk p).formed Try.prog 74 = true := by
    have hc : Try.prog.cellsOf 74 = 2 := by kernel_rfl
    simp [Value.formed, pk, Try.underlying74, hc]
  have hk : Try.prog.keyType 74 = true := by kernel_rfl
  unfold keyOf
  rw [Try.underlying74]
  simp only [hf, hk, Bool.and_self, if_true]
  rw [hN]
  have hi : ∀ (d : Nat) (x : Nat), x < 9223372036854775808 → Try.prog.keyLits (d + 1) 3 [.int .i64 (x : Int)] = some [.int .i64 (x : Int)] := by
    intro d x hx
    unfold Program.keyLits
    rw [Try.underlying3]
    simp [wf_ik hx]
  have hc : Try.prog.cellsOf 74 = 2 := by kernel_rfl
  have hci : Try.prog.cellsOf 3 = 1 := by kernel_rfl
  unfold Program.keyLits
  rw [Try.underlying74]
  simp [pk, Value.cells, hc, hci, hi _ _ h1, hi _ _ h2]
end Go.Proofs.Ytakebmpnbdlcoaa
/- Walks: capstanref1.Int, Text, Hash. -/
set_option linter.unusedSimpArgs false
set_option linter.unusedVariables false
namespace Go.Proofs.Ytakebmpnbdlcoaa
open Go.RowKit
set_option maxRecDepth 100000

/-- A call that hands back what it appended to (A, n, c). -/
def ROnto (w : World) (B : Nat) (e : TypeId) (size : Nat) (A : Option Addr) (n c : Nat) (xs xs' : List Value) (en : Ending) (w' : World) : Prop :=
  ∃ A' n' c', en = .returned (.slice A' n' c') ∧ Onto w w' B e size A n c xs A' n' c' xs'

theorem or_128b (x : Nat) : bits .or .u8 ((x : Int) % 256) 128 = ((UInt8.ofNat (x % 128 + 128)).toNat : Int) := by
  have hx : x % 256 < 256 := Nat.mod_lt _ (by decide)
  have e := u8_or_nat (x % 256) 128 hx (by omega)
  have e2 : ∀ y, y < 256 → y ||| 128 = y % 128 + 128 := by decide +kernel
  rw [e2 _ hx] at e
  rw [show ((x : Int) % 256) = ((x % 256 : Nat) : Int) by omega, show (128 : Int) = ((128 : Nat) : Int) from rfl, e, UInt8.toNat_ofNat']
  omega
theorem max_u64 : IntKind.u64.max = 18446744073709551615 := rfl
theorem xor_all (x : Nat) (h : x < 18446744073709551616) : 18446744073709551615 ^^^ x = 18446744073709551615 - x := by
  have e := congrArg BitVec.toNat (BitVec.allOnes_xor (x := BitVec.ofNat 64 x))
  rw [BitVec.toNat_xor, BitVec.toNat_not, BitVec.toNat_allOnes, BitVec.toNat_ofNat] at e
  simp only [Nat.reducePow, Nat.add_one_sub_one] at e
  rw [Nat.mod_eq_of_lt h] at e
  exact e
theorem zig_xor (n : Int) (ha : -9223372036854775808 ≤ n) (h0 : n < 0) : bits .xor .u64 IntKind.u64.max (IntKind.u64.wrap (IntKind.u64.wrap n * 2)) = (zig n : Int) := by
  have e1 : IntKind.u64.wrap (IntKind.u64.wrap n * 2) = ((18446744073709551616 + 2 * n).toNat : Int) := by
    rw [show ∀ m, IntKind.u64.wrap m = m % 18446744073709551616 from fun m => by simp [IntKind.wrap, IntKind.bits, IntKind.signed]]
    rw [show ∀ m, IntKind.u64.wrap m = m % 18446744073709551616 from fun m => by simp [IntKind.wrap, IntKind.bits, IntKind.signed]]
    omega
  rw [e1, max_u64]
  have e := u64_xor_nat 18446744073709551615 (18446744073709551616 + 2 * n).toNat (by omega) (by omega)
  rw [xor_all _ (by omega)] at e
  rw [show (18446744073709551615 : Int) = ((18446744073709551615 : Nat) : Int) from rfl, e]
  unfold zig
  rw [if_pos h0]
  omega

theorem refInt_any (A : Option Addr) (l c B : Nat) (bs : List UInt8) (n : Int) (w : World) (hO : Own w B 5 1 A l c (B8 bs)) (hB : B ≤ w.heap.size) (hl : l ≤ 1099511627776) (ha : -9223372036854775808 ≤ n) (ha2 : n < 9223372036854775808) :
    Calls Try.prog 44 #[.slice A l c, .int .i64 n] w (ROnto w B 5 1 A l c (B8 bs) (B8 (bs ++ enc (zig n)))) := by
  have hz := zig_lt ha ha2
  have hle := enc_le hz
  go_enter Try.func44, Try.ntmps44
  have key : ∀ x : Int, x = (zig n : Int) → Hid (x = (zig n : Int)) := fun _ h => h
  by_cases h0 : n < 0
  all_goals
    first
      | (have X := key _ (zig_xor n ha h0)
         go_wp2_with fail
         rw [X.out])
      | (have X : Hid (n * 2 = (zig n : Int)) := (show n * 2 = (zig n : Int) by unfold zig; rw [if_neg h0]; omega)
         go_wp2_with fail
         rw [X.out])
    clear key X
    go_loopw [0, 5] (fun s u wr => ∃ (A' : Option Addr) (n' c' : Nat) (pre : List UInt8) (k : Nat), s = .slice A' n' c' ∧ u = .int .u64 (k : Int) ∧ k < 18446744073709551616 ∧
        pre ++ enc k = bs ++ enc (zig n) ∧ Onto w wr B 5 1 A l c (B8 bs) A' n' c' (B8 pre)) (fun _ u _ => (intOf u).toNat)
    case atStart => exact ⟨A, l, c, bs, zig n, rfl, rfl, hz, rfl, Onto.refl hO⟩
    case round =>
      obtain ⟨A', n', c', pre, k, rfl, rfl, hk, he, ho⟩ := hrel
      have hsz := ho.grow.size
      have hn' := ho.own.len8
      have hl8 := hO.len8
      have hlen : n' + (enc k).length ≤ l + 10 := by
        have := congrArg List.length he
        simp only [List.length_append] at this
        rw [← hn', ← hl8] at this
        omega
      have hpos := enc_pos k
      have HE := Lib.hid he
      have HK := Lib.hid hk
      clear hn' hl8 he hk hz hle ha ha2
      by_cases hlt : k < 128
      · have h1 := enc_lo hlt
        rw [h1] at HE
        clear h1
        have t1 : ¬ (128 : Int) ≤ (k : Int) := by omega
        have y1 : (k : Int) = ((UInt8.ofNat k).toNat : Int) := by rw [UInt8.toNat_ofNat']; omega
        have Y1 := Lib.hid y1
        clear y1
        go_wp2_with (first
          | (at_builtin
             refine wpl_push8 _ _ _ elB rfl rfl rfl ho.own rfl (UInt8.ofNat k) Y1.out (by omega) (by omega) ?_
             intro A2 c2 w2 ho2 hb2 g2 _))
        go_ret
        have g3 := (ho.alloc _).step (by rw [B8_app] at g2; exact g2) (by omega)
        rw [← B8_app, HE.out] at g3
        exact ⟨A2, n' + 1, c2, rfl, g3⟩
      · have h1 := enc_hi hlt
        rw [h1] at HE
        clear h1
        have t1 : (128 : Int) ≤ (k : Int) := by omega
        have Y1 := Lib.hid (or_128b k)
        go_wp2_with (first
          | (at_builtin
             refine wpl_push8 _ _ _ elB rfl rfl rfl ho.own rfl (UInt8.ofNat (k % 128 + 128)) Y1.out (by omega) (by omega) ?_
             intro A2 c2 w2 ho2 hb2 g2 _))
        have g3 := (ho.alloc _).step (by rw [B8_app] at g2; exact g2) (by omega)
        rw [← B8_app] at g3
        go_roundw
        case rel => exact ⟨A2, _, c2, _, k / 128, rfl, by go_num, by have := HK.out; omega, by rw [← HE.out]; simp, g3⟩
        case measure => simp [intOf]; omega
end Go.Proofs.Ytakebmpnbdlcoaa
/- Walks: an account's sum, the document's (capstanref7.Leaf). -/
set_option linter.unusedSimpArgs false
set_option linter.unusedVariables false
namespace Go.Proofs.Ytakebmpnbdlcoaa
open Go.RowKit
set_option maxRecDepth 100000
/-- a block is as it was -/
def RKeep (N : Nat) (w w' : World) : Prop := w'.heap[N]? = w.heap[N]?
theorem RKeep.refl_ (N : Nat) (w : World) : RKeep N w w := rfl
theorem RKeep.trans_ (N : Nat) (a b c : World) (h : RKeep N a b) (k : RKeep N b c) : RKeep N a c := k.trans h
set_option maxRecDepth 100000 in
set_option maxHeartbeats 4000000 in
theorem refLeaf_any (a : Acc) (hw : a.wf) (w : World) : Calls Try.prog 18 #[accV a] w fun e w' => e = .returned (hv (leafS a)) ∧ Below w.heap.size w w' := by
  unfold accV
  obtain ⟨W, HW, hbw, ba, bz⟩ := box_acc w a
  have c1 : W.cell? ⟨w.heap.size, 1, none⟩ = some (.int .i64 a.bal) := by rw [ba.cell]; rfl
  have c2 : W.cell? ⟨w.heap.size, 2, none⟩ = some (.int .i64 a.non) := by rw [ba.cell]; rfl
  have c3 : W.cell? ⟨w.heap.size, 3, none⟩ = some (.int .i64 a.dat) := by rw [ba.cell]; rfl
  have HWF := Lib.hid hw
  clear hw
  by_cases hn : a.none
  · have HL : Hid (leafS a = zero32) := (show _ = _ by unfold leafS; rw [if_pos hn])
    obtain ⟨h1, h2, h3⟩ := hn
    rw [h1] at c1
    rw [h2] at c2
    rw [h3] at c3
    clear h1 h2 h3
    go_enter Try.func18, Try.ntmps18
    go_upto_region 1 with fail
    refine wp_at HW.out ?_
    clear HW
    go_wp2_with (first
      | (refine wpl_build (by rfl) _ _ rfl _ built_zero_ ?_)
      | (refine wpl_store_fld (by rfl) _ _ _ rfl (w.heap.size + 1) 0 _ _ (B8 zero32) rfl _ rfl rfl bz (by decide) (info_hash rfl) (B8_one _) ?_
         intro w1 bz1 bu1
         rw [put_all _ _ rfl] at bz1))
    refine bodyPost_ret (v := .agg (B8 (leafS a)).toArray) ?_ rfl ⟨rfl, hbw.trans (below_but bu1 (by omega) hbw.size)⟩
    rw [HL.out]
    exact results_blk Try.results18 rfl bz1 Try.underlying27 rfl (info_hash rfl)
  · have HL : Hid (leafS a = shaS ([0] ++ enc (zig a.id) ++ enc (zig a.bal) ++ enc (zig a.non) ++ enc (zig a.dat))) := (show _ = _ by unfold leafS; rw [if_neg hn])
    have hc : (a.bal == 0) = false ∨ a.bal = 0 ∧ (a.non == 0) = false ∨ a.bal = 0 ∧ a.non = 0 ∧ (a.dat == 0) = false := by
      by_cases h1 : a.bal = 0
      · by_cases h2 : a.non = 0
        · by_cases h3 : a.dat = 0
          · exact absurd ⟨h1, h2, h3⟩ hn
          · exact .inr (.inr ⟨h1, h2, by simpa using h3⟩)
        · exact .inr (.inl ⟨h1, by simpa using h2⟩)
      · exact .inl (by simpa using h1)
    clear hn
    go_enter Try.func18, Try.ntmps18
    go_upto_region 1 with fail
    refine wp_at HW.out ?_
    clear HW
    rcases hc with h1 | ⟨h1, h2⟩ | ⟨h1, h2, h3⟩
    all_goals
      go_wp2_with fail
      clear h1
      try clear h2
      try clear h3
      refine wp_region_C [(1, true), (2, true), (4, true), (5, true), (7, true), (8, true), (10, true), (11, true), (0, false), (3, false), (6, false), (9, false), (12, false), (13, false), (14, false)] (RKeep w.heap.size) (by kernel_rfl) (by kernel_rfl) (by kernel_rfl) (by decide) (RKeep.refl_ _) (RKeep.trans_ _) (by intro d v c a w h; cases d <;> exact h) ?_
      have ba' : Blk W.drew w.heap.size 23 (accC a) := ba
      have bz' : Blk W.drew (w.heap.size + 1) 27 (B8 zero32) := bz
      have hbw' : Below w.heap.size w W.drew := hbw.drew
      clear ba bz hbw c1 c2 c3
      generalize W.drew = V at *
      have c0 : ∀ w', RKeep w.heap.size V w' → w'.cell? ⟨w.heap.size, 0, none⟩ = some (.int .i64 a.id) := fun w' h => by rw [(ba'.keep h).cell]; rfl
      have c1 : ∀ w', RKeep w.heap.size V w' → w'.cell? ⟨w.heap.size, 1, none⟩ = some (.int .i64 a.bal) := fun w' h => by rw [(ba'.keep h).cell]; rfl
      have c2 : ∀ w', RKeep w.heap.size V w' → w'.cell? ⟨w.heap.size, 2, none⟩ = some (.int .i64 a.non) := fun w' h => by rw [(ba'.keep h).cell]; rfl
      have c3 : ∀ w', RKeep w.heap.size V w' → w'.cell? ⟨w.heap.size, 3, none⟩ = some (.int .i64 a.dat) := fun w' h => by rw [(ba'.keep h).cell]; rfl
      have hN : w.heap.size < V.heap.size := ba'.lt
      have hN1 : w.heap.size + 1 < V.heap.size := bz'.lt
      repeat (first | (refine wpC_quiet (v := ?_) rfl (by rfl) ?_ ?_; rotate_left; (· (intro w' hw'; go_simp; try with_reducible rfl)); simp only [Act.put, List.setIfInBounds_toArray, List.set_cons_zero, List.set_cons_succ]) | (refine wpC_val (v := ?_) (RKeep.refl_ _) rfl (by rfl) ?_ ?_; rotate_left; (· (go_simp; try with_reducible rfl)); simp only [Act.put, List.setIfInBounds_toArray, List.set_cons_zero, List.set_cons_succ]) | (refine wpC_skip rfl (by rfl) ?_; simp only [Act.put, List.setIfInBounds_toArray, List.set_cons_zero, List.set_cons_succ]) | (refine wpC_skip' (RKeep.refl_ _) rfl (by rfl) ?_; simp only [Act.put, List.setIfInBounds_toArray, List.set_cons_zero, List.set_cons_succ]))
      clear c0 c1 c2 c3
      have h0 : Below V.heap.size V (V.alloc (.cells #[.int .u8 0] 5)) := (Below.refl _ _).alloc (Nat.le_refl _) _
      have o0 : Own (V.alloc (.cells #[.int .u8 0] 5)) V.heap.size 5 1 (some ⟨V.heap.size, 0, none⟩) 1 1 (B8 [0]) := Own.made V V.heap.size 5 #[.int .u8 0] (Nat.le_refl _) (by decide) rfl
      have e1 := enc_le (zig_lt HWF.out.id.1 HWF.out.id.2)
      have e2 := enc_le (zig_lt HWF.out.bal.1 HWF.out.bal.2)
      have e3 := enc_le (zig_lt HWF.out.non.1 HWF.out.non.2)
      have e4 := enc_le (zig_lt HWF.out.dat.1 HWF.out.dat.2)
      (refine wpC_loud rfl (by rfl) ?_; intro K hK; go_simp)
      (refine hK.out _ _ ((h0.block _ hN)) ?_; clear hK K; try simp only [Act.put, List.setIfInBounds_toArray, List.set_cons_zero, List.set_cons_succ])
      obtain ⟨pb, hpb⟩ : ∃ p, p = V.heap.size := ⟨_, rfl⟩
      rw [show Value.slice (some ⟨V.heap.size, 0, none⟩) 1 1 = Value.slice (some ⟨pb, 0, none⟩) 1 1 from by rw [hpb]]
      rw [show (some (⟨V.heap.size, 0, none⟩ : Addr)) = some ⟨pb, 0, none⟩ from by rw [hpb]] at o0
      clear hpb
      generalize V.alloc (.cells #[.int .u8 0] 5) = V1 at *
      have hs0 := h0.size
      (refine wpC_loud rfl (by rfl) ?_; intro K hK; go_simp)
      refine (refInt_any _ 1 1 V.heap.size [0] a.id V1 o0 hs0 (by omega) HWF.out.id.1 HWF.out.id.2).mono ?_
      rintro e V2 ⟨A2, n2, d2, rfl, g2⟩
      have b2 := g2.bel hs0
      have o2 := g2.own
      have l2 : n2 ≤ 11 := by have := o2.len8; rw [List.length_append] at this; simp at this; omega
      (refine hK.out _ _ ((b2.block _ hN)) ?_; clear hK K; try simp only [Act.put, List.setIfInBounds_toArray, List.set_cons_zero, List.set_cons_succ])
      have f2 := h0.trans b2
      clear g2 o0 b2 h0
      (refine wpC_loud rfl (by rfl) ?_; intro K hK; go_simp)
      refine (refInt_any A2 n2 d2 V.heap.size _ a.bal V2 o2 f2.size (by omega) HWF.out.bal.1 HWF.out.bal.2).mono ?_
      rintro e V3 ⟨A3, n3, d3, rfl, g3⟩
      have b3 := g3.bel f2.size
      have o3 := g3.own
      have l3 : n3 ≤ 21 := by have h9 := o3.len8; rw [List.length_append, ← o2.len8] at h9; omega
      (refine hK.out _ _ ((b3.block _ hN)) ?_; clear hK K; try simp only [Act.put, List.setIfInBounds_toArray, List.set_cons_zero, List.set_cons_succ])
      have f3 := f2.trans b3
      clear g3 o2 b3 f2
      (refine wpC_loud rfl (by rfl) ?_; intro K hK; go_simp)
      refine (refInt_any A3 n3 d3 V.heap.size _ a.non V3 o3 f3.size (by omega) HWF.out.non.1 HWF.out.non.2).mono ?_
      rintro e V4 ⟨A4', n4, d4, rfl, g4⟩
      have b4 := g4.bel f3.size
      have o4 := g4.own
      have l4 : n4 ≤ 31 := by have h9 := o4.len8; rw [List.length_append, ← o3.len8] at h9; omega
      (refine hK.out _ _ ((b4.block _ hN)) ?_; clear hK K; try simp only [Act.put, List.setIfInBounds_toArray, List.set_cons_zero, List.set_cons_succ])
      have f4 := f3.trans b4
      clear g4 o3 b4 f3
      (refine wpC_loud rfl (by rfl) ?_; intro K hK; go_simp)
      refine (refInt_any A4' n4 d4 V.heap.size _ a.dat V4 o4 f4.size (by omega) HWF.out.dat.1 HWF.out.dat.2).mono ?_
      rintro e V5 ⟨A5, n5, d5, rfl, g5⟩
      have b5 := g5.bel f4.size
      have o5 := g5.own
      have l5 : n5 ≤ 41 := by have h9 := o5.len8; rw [List.length_append, ← o4.len8] at h9; omega
      (refine hK.out _ _ ((b5.block _ hN)) ?_; clear hK K; try simp only [Act.put, List.setIfInBounds_toArray, List.set_cons_zero, List.set_cons_succ])
      have f5 := f4.trans b5
      clear g5 o4 b5 f4
      (refine wpC_loud rfl (by rfl) ?_; intro K hK; go_simp)
      refine (refSum_any A5 n5 d5 _ V5 o5.sl (by omega)).mono ?_
      rintro e V6 ⟨rfl, h6⟩
      have HS := Lib.hid (leafS_len a)
      rw [← HL.out]
      unfold hv
      (refine hK.out _ _ ((h6.block _ (Nat.lt_of_lt_of_le hN f5.size))) ?_; clear hK K; try simp only [Act.put, List.setIfInBounds_toArray, List.set_cons_zero, List.set_cons_succ])
      have f6 := f5.trans (h6.mono f5.size)
      have bz6 := bz'.to f6
      have fin := hbw'.trans (f6.mono (Nat.le_of_lt hN))
      clear o5 f5 h6 f6
      refine wpC_store_blk rfl (by rfl) _ _ _ rfl (w.heap.size + 1) 27 (B8 zero32) (B8 (leafS a)) rfl rfl bz6 (by rw [B8_len, B8_len, HS.out]; rfl) (info_hash HS.out) (B8_one _) (fun w' h => h.block _ (by have := bz6.lt; omega) (by intro e; injection e; omega)) ?_
      intro V7 b7 u7
      simp only [Act.put, List.setIfInBounds_toArray, List.set_cons_zero, List.set_cons_succ]
      refine wpC_nil ?_
      go_wp2_with fail
      refine bodyPost_ret (v := .agg (B8 (leafS a)).toArray) ?_ rfl ⟨rfl, fin.trans (below_but u7 (by omega) fin.size)⟩
      exact results_blk Try.results18 rfl b7 Try.underlying27 rfl (info_hash HS.out)
end Go.Proofs.Ytakebmpnbdlcoaa
