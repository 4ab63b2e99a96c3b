/- The texts of this claim, part G: words, plain laws, walks. -/
import Derived.Test.YtakebmpnbdlcoaaPartF
import Derived.Test.YtakebmpnbdlcoaaPartE
/- Walks: the document's states: Put, Same. -/
set_option linter.unusedSimpArgs false
set_option linter.unusedVariables false
namespace Go.Proofs.Ytakebmpnbdlcoaa
open Go.RowKit
set_option maxRecDepth 100000
theorem El.acc : El Try.prog 32 23 4 32 := El.mk' (z := .agg #[.int .i64 0, .int .i64 0, .int .i64 0, .int .i64 0]) Try.underlying32 (by kernel_rfl) rfl (by decide)
theorem A4_take : ∀ (k : Nat) (s : List Acc), A4 (s.take k) = (A4 s).take (k * 4)
  | 0, s => by simp [A4]
  | k + 1, [] => by simp [A4]
  | k + 1, a :: s => by
    have ih := A4_take k s
    have ha : (accC a).length = 4 := rfl
    simp only [A4, List.take_succ_cons, List.flatMap_cons] at ih ⊢
    rw [ih, List.take_append, ha, List.take_of_length_le (l := accC a) (by rw [ha]; omega), show (k + 1) * 4 - 4 = k * 4 from by omega]
theorem A4_drop : ∀ (k : Nat) (s : List Acc), A4 (s.drop k) = (A4 s).drop (k * 4)
  | 0, s => by simp [A4]
  | k + 1, [] => by simp [A4]
  | k + 1, a :: s => by
    have ih := A4_drop k s
    have ha : (accC a).length = 4 := rfl
    simp only [A4, List.drop_succ_cons, List.flatMap_cons] at ih ⊢
    rw [ih, List.drop_append, ha, show (accC a).drop ((k + 1) * 4) = [] from List.drop_eq_nil_of_le (by rw [ha]; omega), show (k + 1) * 4 - 4 = k * 4 from by omega]
    simp
theorem Sl.front4 {w : World} {A : Option Addr} {n k : Nat} {s : List Acc} (h : Sl w 4 A n (A4 s)) (hk : k ≤ n) : Sl w 4 A k (A4 (s.take k)) := by
  have hlen := h.len
  refine ⟨by rw [A4_take k s, List.length_take, hlen]; omega, fun h0 => ?_⟩
  obtain ⟨b, o, e, hb, hc⟩ := h.cells (by omega)
  refine ⟨b, o, e, hb, fun j u hu => hc j u ?_⟩
  rw [A4_take k s, List.getElem?_take] at hu
  split at hu
  · exact hu
  · cases hu
theorem Sl.back4 {w : World} {b o n k : Nat} {s : List Acc} (h : Sl w 4 (some ⟨b, o, none⟩) n (A4 s)) (hk : k ≤ n) : Sl w 4 (some ⟨b, o + k * 4, none⟩) (n - k) (A4 (s.drop k)) := by
  have hlen := h.len
  refine ⟨by rw [A4_drop k s, List.length_drop, hlen]; omega, fun h0 => ?_⟩
  obtain ⟨b', o', e, hb, hc⟩ := h.cells (by omega)
  simp only [Option.some.injEq, Addr.mk.injEq, and_true] at e
  obtain ⟨rfl, rfl⟩ := e
  refine ⟨b, o + k * 4, rfl, hb, fun j u hu => ?_⟩
  rw [A4_drop k s, List.getElem?_drop] at hu
  rw [Nat.add_assoc]
  exact hc (k * 4 + j) u hu
/-- where an account is put -/
theorem put_at : ∀ (s : List Acc) (a : Acc) (q : Nat), (∀ x ∈ s.take q, x.id < a.id) → q ≤ s.length → (∀ x, s[q]? = some x → ¬ x.id < a.id) →
    putS s a = s.take q ++ one_if a ++ (match s[q]? with | some x => if x.id = a.id then s.drop (q + 1) else s.drop q | none => [])
  | [], a, q, _, hq, _ => by
    obtain rfl : q = 0 := by simpa using hq
    simp [putS]
  | x :: s, a, 0, _, _, h2 => by
    have := h2 x rfl
    unfold putS
    rw [if_neg this]
    simp
  | x :: s, a, q + 1, h1, hq, h2 => by
    have ih := put_at s a q (fun y hy => h1 y (by simp [hy])) (by simpa using hq) (fun y hy => h2 y (by simpa using hy))
    unfold putS
    rw [if_pos (h1 x (by simp)), ih]
    simp
set_option maxRecDepth 100000 in
set_option maxHeartbeats 4000000 in
theorem refPut_any (A : Option Addr) (n c : Nat) (s : List Acc) (a : Acc) (w : World) (sl : Sl w 4 A n (A4 s)) (hlen : s.length = n) (hn : n ≤ 1099511627776) (hnc : n ≤ c) (hA : ∀ ad, A = some ad → ∃ b o, ad = ⟨b, o, none⟩) :
    Calls Try.prog 20 #[.slice A n c, accV a] w (RSl w 23 4 (A4 (putS s a))) := by
  unfold accV
  obtain ⟨W, HW, hbw, ba⟩ : ∃ W, Hid (W = w.alloc (.cells (accC a).toArray 23)) ∧ Below w.heap.size w W ∧ Blk W w.heap.size 23 (accC a) := ⟨_, rfl, (Below.refl _ _).alloc (Nat.le_refl _) _, Blk.new w (accC a).toArray 23⟩
  have HLN := Lib.hid hlen
  have HA := Lib.hid hA
  have hWz := ba.lt
  clear hlen hA
  go_enter Try.func20, Try.ntmps20
  go_upto_region 1 with fail
  refine wp_at HW.out ?_
  clear HW
  go_wp2_with fail
  go_loopw [5] (fun k wr => ∃ q : Nat, k = .int .i64 (q : Int) ∧ q ≤ n ∧ Hid (∀ x ∈ s.take q, x.id < a.id) ∧ Below (w.heap.size + 1) W wr) (fun k _ => n - (intOf k).toNat)
  case atStart => exact ⟨0, rfl, Nat.zero_le _, (by show ∀ x ∈ s.take 0, _; simp), Below.refl _ _⟩
  case round =>
    obtain ⟨q, rfl, hq, hlow, hf⟩ := hrel
    have slr := sl.to (hbw.trans (hf.mono (by omega)))
    have bar := ba.below hf (by omega)
    have e0 : wr.drew.cell? ⟨w.heap.size, 0, none⟩ = some (.int .i64 a.id) := by
      have := bar.cell 0
      exact this
    by_cases hlt : q < n
    · have t1 : (q : Int) < (n : Int) := by omega
      obtain ⟨x, hx⟩ : ∃ x, s[q]? = some x := ⟨_, List.getElem?_eq_getElem (by rw [HLN.out]; exact hlt)⟩
      obtain ⟨b, o, rfl, hb⟩ := slr.some_ (by omega)
      have c0 : wr.drew.cell? ⟨b, o + q * 4, none⟩ = some (.int .i64 x.id) := slr.id4 q x hx
      by_cases hid : x.id < a.id
      · have HLO : Hid (∀ y ∈ s.take (q + 1), y.id < a.id) := (by
          show ∀ y ∈ s.take (q + 1), y.id < a.id
          intro y hy
          rw [List.take_add_one, hx, List.mem_append] at hy
          rcases hy with hy | hy
          · exact hlow.out y hy
          · simp at hy
            subst hy
            exact hid)
        clear hx
        go_wp2_with fail
        refine wp_region_E [(0, true), (1, true), (2, true), (3, true), (4, true), (5, true), (6, true), (7, true), (8, true), (9, true), (10, true), (11, true), (12, true), (13, true)] (by kernel_rfl) (by kernel_rfl) (by kernel_rfl) (by decide) (by intro d v c a w h; cases d <;> exact h) ?_
        repeat (first | (refine wpC_eq (v := ?_) rfl (by rfl) ?_ ?_; rotate_left; (· (go_simp; try with_reducible rfl)); simp only [Act.put, List.setIfInBounds_toArray, List.set_cons_zero, List.set_cons_succ]) | (refine wpC_skip rfl (by rfl) ?_; simp only [Act.put, List.setIfInBounds_toArray, List.set_cons_zero, List.set_cons_succ]))
        refine wpC_nil ?_
        go_wp2_with fail
        go_roundw
        case rel => exact ⟨q + 1, by go_num, by omega, HLO, hf.drew⟩
        case measure => simp [intOf]; omega
      · have t2 : decide (x.id < a.id) = false := decide_eq_false hid
        have HX := Lib.hid hx
        have HID := Lib.hid hid
        clear hx hid
        go_wp2_with fail
        refine wp_region_E [(0, true), (1, true), (2, true), (3, true), (4, true), (5, true), (6, true), (7, true), (8, true), (9, true), (10, true), (11, true), (12, true), (13, true)] (by kernel_rfl) (by kernel_rfl) (by kernel_rfl) (by decide) (by intro d v c a w h; cases d <;> exact h) ?_
        repeat (first | (refine wpC_eq (v := ?_) rfl (by rfl) ?_ ?_; rotate_left; (· (go_simp; try with_reducible rfl)); simp only [Act.put, List.setIfInBounds_toArray, List.set_cons_zero, List.set_cons_succ]) | (refine wpC_skip rfl (by rfl) ?_; simp only [Act.put, List.setIfInBounds_toArray, List.set_cons_zero, List.set_cons_succ]))
        refine wpC_nil ?_
        have f0 : Below (w.heap.size + 1) W wr.drew := hf.drew
        have bav : Blk wr.drew w.heap.size 23 (accC a) := bar
        have slv := slr.drew
        clear bar hf e0 c0
        generalize wr.drew = V at *
        have slq := slv.front4 hq
        by_cases hno : a.none
        · go_wp2_with (first
            | (at_builtin
               refine wpl_app _ _ _ _ El.acc rfl rfl rfl (Own.made V (w.heap.size + 1) 23 #[] (by have := f0.size; omega) (Nat.zero_le _) rfl) rfl ((slq).alloc _) (A4_one _) (by omega) (by omega) (by have := f0.size; simp; omega) ?_
               intro A1 c1 w1 g1
               have g1 := Lib.hid g1
               have b1 : Below (w.heap.size + 1) V w1 := ((Below.refl _ _).alloc (by have := f0.size; omega) _).trans (g1.out.below (Own.made V (w.heap.size + 1) 23 #[] (by have := f0.size; omega) (Nat.zero_le _) rfl) (by have := f0.size; simp; omega))
               have ba1 := bav.below b1 (by omega)
               have f1 := f0.trans b1
               obtain ⟨-, k0, k1, k2, k3⟩ := acc_cells ba1))
          have o1 := g1.out.own
          simp only [Nat.zero_add, List.nil_append] at o1
          refine (refNone_any a w1).mono ?_
          rintro e w2 ⟨rfl, hb2⟩
          have hw1 : w.heap.size + 1 ≤ w1.heap.size := by have := f1.size; omega
          have f2 := f1.trans (hb2.mono hw1)
          have hw2 : w.heap.size + 1 ≤ w2.heap.size := by have := f2.size; omega
          have ba2 := ba1.to hb2
          have o2 := o1.to hb2
          clear g1 b1 f0 bav k0 k1 k2 k3 f1 ba1 o1 hb2
          obtain ⟨-, k0, k1, k2, k3⟩ := acc_cells ba2
          have hone : one_if a = [] := by unfold one_if; rw [if_pos hno]
          have HONE := Lib.hid hone
          rw [show A4 (s.take q) = A4 (s.take q ++ one_if a) from by rw [hone, List.append_nil]] at o2
          clear hone
          rw [decide_eq_true hno]
          go_wp2_with fail
          have slZ := sl.to (hbw.trans (f2.mono (by omega)))
          have e1 : w2.drew.cell? ⟨w.heap.size, 0, none⟩ = some (.int .i64 a.id) := ba2.cell 0
          have c1' : w2.drew.cell? ⟨b, o + q * 4, none⟩ = some (.int .i64 x.id) := slZ.id4 q x HX.out
          have fD : Below (w.heap.size + 1) W w2.drew := f2.drew
          have oD : Own w2.drew (w.heap.size + 1) 23 4 A1 (q) c1 (A4 (s.take q ++ one_if a)) := o2
          have slD := slZ.drew
          by_cases heq : x.id = a.id
          · have t3 : (x.id == a.id) = true := by simpa using heq
            go_wp2_with fail
            refine wp_region_E [(0, true), (1, true), (2, true), (3, true), (4, true), (5, true), (6, true), (7, true), (8, true), (9, true), (10, true), (11, true), (12, true), (13, true)] (by kernel_rfl) (by kernel_rfl) (by kernel_rfl) (by decide) (by intro d v c a w h; cases d <;> exact h) ?_
            repeat (first | (refine wpC_eq (v := ?_) rfl (by rfl) ?_ ?_; rotate_left; (· (go_simp; try with_reducible rfl)); simp only [Act.put, List.setIfInBounds_toArray, List.set_cons_zero, List.set_cons_succ]) | (refine wpC_skip rfl (by rfl) ?_; simp only [Act.put, List.setIfInBounds_toArray, List.set_cons_zero, List.set_cons_succ]))
            refine wpC_nil ?_
            generalize w2.drew = Y at *
            have hput := put_at s a q hlow.out (by rw [HLN.out]; exact hq) (by intro y hy; rw [HX.out] at hy; injection hy with hy; subst hy; exact Int.not_lt.2 HID.out)
            rw [HX.out] at hput
            simp only [if_pos heq] at hput
            have HPUT : Hid (A4 (putS s a) = A4 (s.take q ++ one_if a) ++ A4 (s.drop (q + 1))) := (show _ = _ by rw [hput, A4_app])
            have hY : w.heap.size + 1 ≤ Y.heap.size := by have := fD.size; omega
            clear hput e1 c1'
            by_cases hck : c = q + 1
            · subst hck
              have hnq : n = q + 1 := by omega
              have slK : ∀ A', Sl Y 4 A' 0 (A4 (s.drop (q + 1))) := fun A' => ⟨by rw [A4_len, List.length_drop, HLN.out]; omega, fun h => absurd h (by omega)⟩
              have slK := slK (some ⟨b, o, none⟩)
              go_wp2_with (first
                | (at_builtin
                   go_loud (refine wpl_app _ _ _ _ El.acc rfl rfl rfl oD rfl slK (A4_one _) (by omega) (by omega) hY ?_)
                   intro AF cF wF gF))
              have oF := gF.own
              have bF := gF.below oD hY
              go_ret
              rw [← HPUT.out] at oF
              try rw [show q + (n - q) = n from by omega] at oF
              exact RSl.mk (Own.mono (B' := w.heap.size) oF (show w.heap.size ≤ w.heap.size + 1 by omega)) (hbw.trans (Below.mono (fD.trans bF) (show w.heap.size ≤ w.heap.size + 1 by omega)))
            · have slK := slD.back4 (k := q + 1) hlt
              go_wp2_with (first
                | (at_builtin
                   go_loud (refine wpl_app _ _ _ _ El.acc rfl rfl rfl oD rfl slK (A4_one _) (by omega) (by omega) hY ?_)
                   intro AF cF wF gF))
              have oF := gF.own
              have bF := gF.below oD hY
              go_ret
              rw [← HPUT.out] at oF
              try rw [show q + (n - q) = n from by omega] at oF
              exact RSl.mk (Own.mono (B' := w.heap.size) oF (show w.heap.size ≤ w.heap.size + 1 by omega)) (hbw.trans (Below.mono (fD.trans bF) (show w.heap.size ≤ w.heap.size + 1 by omega)))
          · have t3 : (x.id == a.id) = false := by simpa using heq
            go_wp2_with fail
            refine wp_region_E [(0, true), (1, true), (2, true), (3, true), (4, true), (5, true), (6, true), (7, true), (8, true), (9, true), (10, true), (11, true), (12, true), (13, true)] (by kernel_rfl) (by kernel_rfl) (by kernel_rfl) (by decide) (by intro d v c a w h; cases d <;> exact h) ?_
            repeat (first | (refine wpC_eq (v := ?_) rfl (by rfl) ?_ ?_; rotate_left; (· (go_simp; try with_reducible rfl)); simp only [Act.put, List.setIfInBounds_toArray, List.set_cons_zero, List.set_cons_succ]) | (refine wpC_skip rfl (by rfl) ?_; simp only [Act.put, List.setIfInBounds_toArray, List.set_cons_zero, List.set_cons_succ]))
            refine wpC_nil ?_
            generalize w2.drew = Y at *
            have hput := put_at s a q hlow.out (by rw [HLN.out]; exact hq) (by intro y hy; rw [HX.out] at hy; injection hy with hy; subst hy; exact Int.not_lt.2 HID.out)
            rw [HX.out] at hput
            simp only [if_neg heq] at hput
            have HPUT : Hid (A4 (putS s a) = A4 (s.take q ++ one_if a) ++ A4 (s.drop (q))) := (show _ = _ by rw [hput, A4_app])
            have hY : w.heap.size + 1 ≤ Y.heap.size := by have := fD.size; omega
            clear hput e1 c1'
            have hck : ¬ c = q := by omega
            · have slK := slD.back4 (k := q) hq
              go_wp2_with (first
                | (at_builtin
                   go_loud (refine wpl_app _ _ _ _ El.acc rfl rfl rfl oD rfl slK (A4_one _) (by omega) (by omega) hY ?_)
                   intro AF cF wF gF))
              have oF := gF.own
              have bF := gF.below oD hY
              go_ret
              rw [← HPUT.out] at oF
              try rw [show q + (n - q) = n from by omega] at oF
              exact RSl.mk (Own.mono (B' := w.heap.size) oF (show w.heap.size ≤ w.heap.size + 1 by omega)) (hbw.trans (Below.mono (fD.trans bF) (show w.heap.size ≤ w.heap.size + 1 by omega)))
        · go_wp2_with (first
            | (at_builtin
               refine wpl_app _ _ _ _ El.acc rfl rfl rfl (Own.made V (w.heap.size + 1) 23 #[] (by have := f0.size; omega) (Nat.zero_le _) rfl) rfl ((slq).alloc _) (A4_one _) (by omega) (by omega) (by have := f0.size; simp; omega) ?_
               intro A1 c1 w1 g1
               have g1 := Lib.hid g1
               have b1 : Below (w.heap.size + 1) V w1 := ((Below.refl _ _).alloc (by have := f0.size; omega) _).trans (g1.out.below (Own.made V (w.heap.size + 1) 23 #[] (by have := f0.size; omega) (Nat.zero_le _) rfl) (by have := f0.size; simp; omega))
               have ba1 := bav.below b1 (by omega)
               have f1 := f0.trans b1
               obtain ⟨-, k0, k1, k2, k3⟩ := acc_cells ba1))
          have o1 := g1.out.own
          simp only [Nat.zero_add, List.nil_append] at o1
          refine (refNone_any a w1).mono ?_
          rintro e w2 ⟨rfl, hb2⟩
          have hw1 : w.heap.size + 1 ≤ w1.heap.size := by have := f1.size; omega
          have f2 := f1.trans (hb2.mono hw1)
          have hw2 : w.heap.size + 1 ≤ w2.heap.size := by have := f2.size; omega
          have ba2 := ba1.to hb2
          have o2 := o1.to hb2
          clear g1 b1 f0 bav k0 k1 k2 k3 f1 ba1 o1 hb2
          obtain ⟨-, k0, k1, k2, k3⟩ := acc_cells ba2
          rw [decide_eq_false hno]
          go_wp2_with (first
            | (at_builtin
               refine wpl_push _ _ _ El.acc (cs := #[.int .i64 a.id, .int .i64 a.bal, .int .i64 a.non, .int .i64 a.dat]) rfl rfl rfl o2 rfl rfl (accC_one a) (by omega) (by omega) hw2 ?_
               intro A3 c3 w3 g3 hb3 hg3))
          have o3 := g3.own
          have hone : one_if a = [a] := by unfold one_if; rw [if_neg hno]
          have HONE := Lib.hid hone
          rw [show A4 (s.take q) ++ (#[.int .i64 a.id, .int .i64 a.bal, .int .i64 a.non, .int .i64 a.dat] : Array Value).toList = A4 (s.take q ++ one_if a) from by rw [hone, A4_app]; rfl] at o3
          have f3 := f2.trans hb3
          have ba3 := ba2.below hb3 (by omega)
          clear hone g3 hg3 hb3 o2 k0 k1 k2 k3
          have slZ := sl.to (hbw.trans (f3.mono (by omega)))
          have e1 : w3.drew.cell? ⟨w.heap.size, 0, none⟩ = some (.int .i64 a.id) := ba3.cell 0
          have c1' : w3.drew.cell? ⟨b, o + q * 4, none⟩ = some (.int .i64 x.id) := slZ.id4 q x HX.out
          have fD : Below (w.heap.size + 1) W w3.drew := f3.drew
          have oD : Own w3.drew (w.heap.size + 1) 23 4 A3 (q + 1) c3 (A4 (s.take q ++ one_if a)) := o3
          have slD := slZ.drew
          by_cases heq : x.id = a.id
          · have t3 : (x.id == a.id) = true := by simpa using heq
            go_wp2_with fail
            refine wp_region_E [(0, true), (1, true), (2, true), (3, true), (4, true), (5, true), (6, true), (7, true), (8, true), (9, true), (10, true), (11, true), (12, true), (13, true)] (by kernel_rfl) (by kernel_rfl) (by kernel_rfl) (by decide) (by intro d v c a w h; cases d <;> exact h) ?_
            repeat (first | (refine wpC_eq (v := ?_) rfl (by rfl) ?_ ?_; rotate_left; (· (go_simp; try with_reducible rfl)); simp only [Act.put, List.setIfInBounds_toArray, List.set_cons_zero, List.set_cons_succ]) | (refine wpC_skip rfl (by rfl) ?_; simp only [Act.put, List.setIfInBounds_toArray, List.set_cons_zero, List.set_cons_succ]))
            refine wpC_nil ?_
            generalize w3.drew = Y at *
            have hput := put_at s a q hlow.out (by rw [HLN.out]; exact hq) (by intro y hy; rw [HX.out] at hy; injection hy with hy; subst hy; exact Int.not_lt.2 HID.out)
            rw [HX.out] at hput
            simp only [if_pos heq] at hput
            have HPUT : Hid (A4 (putS s a) = A4 (s.take q ++ one_if a) ++ A4 (s.drop (q + 1))) := (show _ = _ by rw [hput, A4_app])
            have hY : w.heap.size + 1 ≤ Y.heap.size := by have := fD.size; omega
            clear hput e1 c1'
            by_cases hck : c = q + 1
            · subst hck
              have hnq : n = q + 1 := by omega
              have slK : ∀ A', Sl Y 4 A' 0 (A4 (s.drop (q + 1))) := fun A' => ⟨by rw [A4_len, List.length_drop, HLN.out]; omega, fun h => absurd h (by omega)⟩
              have slK := slK (some ⟨b, o, none⟩)
              go_wp2_with (first
                | (at_builtin
                   go_loud (refine wpl_app _ _ _ _ El.acc rfl rfl rfl oD rfl slK (A4_one _) (by omega) (by omega) hY ?_)
                   intro AF cF wF gF))
              have oF := gF.own
              have bF := gF.below oD hY
              go_ret
              rw [← HPUT.out] at oF
              try rw [show q + (n - q) = n from by omega] at oF
              exact RSl.mk (Own.mono (B' := w.heap.size) oF (show w.heap.size ≤ w.heap.size + 1 by omega)) (hbw.trans (Below.mono (fD.trans bF) (show w.heap.size ≤ w.heap.size + 1 by omega)))
            · have slK := slD.back4 (k := q + 1) hlt
              go_wp2_with (first
                | (at_builtin
                   go_loud (refine wpl_app _ _ _ _ El.acc rfl rfl rfl oD rfl slK (A4_one _) (by omega) (by omega) hY ?_)
                   intro AF cF wF gF))
              have oF := gF.own
              have bF := gF.below oD hY
              go_ret
              rw [← HPUT.out] at oF
              try rw [show q + (n - q) = n from by omega] at oF
              exact RSl.mk (Own.mono (B' := w.heap.size) oF (show w.heap.size ≤ w.heap.size + 1 by omega)) (hbw.trans (Below.mono (fD.trans bF) (show w.heap.size ≤ w.heap.size + 1 by omega)))
          · have t3 : (x.id == a.id) = false := by simpa using heq
            go_wp2_with fail
            refine wp_region_E [(0, true), (1, true), (2, true), (3, true), (4, true), (5, true), (6, true), (7, true), (8, true), (9, true), (10, true), (11, true), (12, true), (13, true)] (by kernel_rfl) (by kernel_rfl) (by kernel_rfl) (by decide) (by intro d v c a w h; cases d <;> exact h) ?_
            repeat (first | (refine wpC_eq (v := ?_) rfl (by rfl) ?_ ?_; rotate_left; (· (go_simp; try with_reducible rfl)); simp only [Act.put, List.setIfInBounds_toArray, List.set_cons_zero, List.set_cons_succ]) | (refine wpC_skip rfl (by rfl) ?_; simp only [Act.put, List.setIfInBounds_toArray, List.set_cons_zero, List.set_cons_succ]))
            refine wpC_nil ?_
            generalize w3.drew = Y at *
            have hput := put_at s a q hlow.out (by rw [HLN.out]; exact hq) (by intro y hy; rw [HX.out] at hy; injection hy with hy; subst hy; exact Int.not_lt.2 HID.out)
            rw [HX.out] at hput
            simp only [if_neg heq] at hput
            have HPUT : Hid (A4 (putS s a) = A4 (s.take q ++ one_if a) ++ A4 (s.drop (q))) := (show _ = _ by rw [hput, A4_app])
            have hY : w.heap.size + 1 ≤ Y.heap.size := by have := fD.size; omega
            clear hput e1 c1'
            have hck : ¬ c = q := by omega
            · have slK := slD.back4 (k := q) hq
              go_wp2_with (first
                | (at_builtin
                   go_loud (refine wpl_app _ _ _ _ El.acc rfl rfl rfl oD rfl slK (A4_one _) (by omega) (by omega) hY ?_)
                   intro AF cF wF gF))
              have oF := gF.own
              have bF := gF.below oD hY
              go_ret
              rw [← HPUT.out] at oF
              try rw [show q + (n - q) = n from by omega] at oF
              exact RSl.mk (Own.mono (B' := w.heap.size) oF (show w.heap.size ≤ w.heap.size + 1 by omega)) (hbw.trans (Below.mono (fD.trans bF) (show w.heap.size ≤ w.heap.size + 1 by omega)))
    · obtain rfl : q = n := by omega
      have t1 : ¬ (q : Int) < (q : Int) := by omega
      have hnone : s[q]? = none := List.getElem?_eq_none (by rw [HLN.out]; exact Nat.le_refl _)
      have HX := Lib.hid hnone
      clear hnone
      rcases A with _ | ad
      · obtain rfl : q = 0 := by
          rcases Nat.eq_zero_or_pos q with h | h
          · exact h
          · obtain ⟨b, o, e, _⟩ := sl.some_ h
            cases e
        go_wp2_with fail
        refine wp_region_E [(0, true), (1, true), (2, true), (3, true), (4, true), (5, true), (6, true), (7, true), (8, true), (9, true), (10, true), (11, true), (12, true), (13, true)] (by kernel_rfl) (by kernel_rfl) (by kernel_rfl) (by decide) (by intro d v c a w h; cases d <;> exact h) ?_
        repeat (first | (refine wpC_eq (v := ?_) rfl (by rfl) ?_ ?_; rotate_left; (· (go_simp; try with_reducible rfl)); simp only [Act.put, List.setIfInBounds_toArray, List.set_cons_zero, List.set_cons_succ]) | (refine wpC_skip rfl (by rfl) ?_; simp only [Act.put, List.setIfInBounds_toArray, List.set_cons_zero, List.set_cons_succ]))
        refine wpC_nil ?_
        have f0 : Below (w.heap.size + 1) W wr.drew := hf.drew
        have bav : Blk wr.drew w.heap.size 23 (accC a) := bar
        have slv := slr.drew
        clear bar hf e0
        generalize wr.drew = V at *
        have slq := slv.front4 (Nat.le_refl _)
        by_cases hno : a.none
        · go_wp2_with (first
            | (at_builtin
               refine wpl_app _ _ _ _ El.acc rfl rfl rfl (Own.made V (w.heap.size + 1) 23 #[] (by have := f0.size; omega) (Nat.zero_le _) rfl) rfl ((slq).alloc _) (A4_one _) (by omega) (by omega) (by have := f0.size; simp; omega) ?_
               intro A1 c1 w1 g1
               have g1 := Lib.hid g1
               have b1 : Below (w.heap.size + 1) V w1 := ((Below.refl _ _).alloc (by have := f0.size; omega) _).trans (g1.out.below (Own.made V (w.heap.size + 1) 23 #[] (by have := f0.size; omega) (Nat.zero_le _) rfl) (by have := f0.size; simp; omega))
               have ba1 := bav.below b1 (by omega)
               have f1 := f0.trans b1
               obtain ⟨-, k0, k1, k2, k3⟩ := acc_cells ba1))
          have o1 := g1.out.own
          simp only [Nat.zero_add, List.nil_append] at o1
          refine (refNone_any a w1).mono ?_
          rintro e w2 ⟨rfl, hb2⟩
          have hw1 : w.heap.size + 1 ≤ w1.heap.size := by have := f1.size; omega
          have f2 := f1.trans (hb2.mono hw1)
          have hw2 : w.heap.size + 1 ≤ w2.heap.size := by have := f2.size; omega
          have ba2 := ba1.to hb2
          have o2 := o1.to hb2
          clear g1 b1 f0 bav k0 k1 k2 k3 f1 ba1 o1 hb2
          obtain ⟨-, k0, k1, k2, k3⟩ := acc_cells ba2
          have hone : one_if a = [] := by unfold one_if; rw [if_pos hno]
          have HONE := Lib.hid hone
          rw [show A4 (s.take 0) = A4 (s.take 0 ++ one_if a) from by rw [hone, List.append_nil]] at o2
          clear hone
          rw [decide_eq_true hno]
          go_wp2_with fail
          have fD : Below (w.heap.size + 1) W w2.drew := f2.drew
          have oD : Own w2.drew (w.heap.size + 1) 23 4 A1 (0) c1 (A4 (s.take 0 ++ one_if a)) := o2
          go_wp2_with fail
          refine wp_region_E [(0, true), (1, true), (2, true), (3, true), (4, true), (5, true), (6, true), (7, true), (8, true), (9, true), (10, true), (11, true), (12, true), (13, true)] (by kernel_rfl) (by kernel_rfl) (by kernel_rfl) (by decide) (by intro d v c a w h; cases d <;> exact h) ?_
          repeat (first | (refine wpC_eq (v := ?_) rfl (by rfl) ?_ ?_; rotate_left; (· (go_simp; try with_reducible rfl)); simp only [Act.put, List.setIfInBounds_toArray, List.set_cons_zero, List.set_cons_succ]) | (refine wpC_skip rfl (by rfl) ?_; simp only [Act.put, List.setIfInBounds_toArray, List.set_cons_zero, List.set_cons_succ]))
          refine wpC_nil ?_
          generalize w2.drew = Y at *
          have hput := put_at s a 0 hlow.out (by rw [HLN.out]; exact hq) (by intro y hy; rw [HX.out] at hy; cases hy)
          rw [HX.out] at hput
          simp only [List.append_nil] at hput
          have HPUT : Hid (A4 (putS s a) = A4 (s.take 0 ++ one_if a) ++ []) := (show _ = _ by rw [hput, List.append_nil])
          have hY : w.heap.size + 1 ≤ Y.heap.size := by have := fD.size; omega
          clear hput
          have slK : ∀ A', Sl Y 4 A' 0 [] := fun A' => ⟨rfl, fun h => absurd h (by omega)⟩
          by_cases hck : c = 0
          · subst hck
            go_wp2_with (first
              | (at_builtin
                 refine wpl_app _ _ _ _ El.acc rfl rfl rfl oD rfl (slK _) (by simp) (by omega) (by omega) hY ?_
                 intro AF cF wF gF))
            have oF := gF.own
            have bF := gF.below oD hY
            go_ret
            rw [← HPUT.out] at oF
            exact RSl.mk (Own.mono (B' := w.heap.size) oF (show w.heap.size ≤ w.heap.size + 1 by omega)) (hbw.trans (Below.mono (fD.trans bF) (show w.heap.size ≤ w.heap.size + 1 by omega)))
          · go_wp2_with (first
              | (at_builtin
                 refine wpl_app _ _ _ _ El.acc rfl rfl rfl oD rfl (slK _) (by simp) (by omega) (by omega) hY ?_
                 intro AF cF wF gF))
            have oF := gF.own
            have bF := gF.below oD hY
            go_ret
            rw [← HPUT.out] at oF
            exact RSl.mk (Own.mono (B' := w.heap.size) oF (show w.heap.size ≤ w.heap.size + 1 by omega)) (hbw.trans (Below.mono (fD.trans bF) (show w.heap.size ≤ w.heap.size + 1 by omega)))
        · go_wp2_with (first
            | (at_builtin
               refine wpl_app _ _ _ _ El.acc rfl rfl rfl (Own.made V (w.heap.size + 1) 23 #[] (by have := f0.size; omega) (Nat.zero_le _) rfl) rfl ((slq).alloc _) (A4_one _) (by omega) (by omega) (by have := f0.size; simp; omega) ?_
               intro A1 c1 w1 g1
               have g1 := Lib.hid g1
               have b1 : Below (w.heap.size + 1) V w1 := ((Below.refl _ _).alloc (by have := f0.size; omega) _).trans (g1.out.below (Own.made V (w.heap.size + 1) 23 #[] (by have := f0.size; omega) (Nat.zero_le _) rfl) (by have := f0.size; simp; omega))
               have ba1 := bav.below b1 (by omega)
               have f1 := f0.trans b1
               obtain ⟨-, k0, k1, k2, k3⟩ := acc_cells ba1))
          have o1 := g1.out.own
          simp only [Nat.zero_add, List.nil_append] at o1
          refine (refNone_any a w1).mono ?_
          rintro e w2 ⟨rfl, hb2⟩
          have hw1 : w.heap.size + 1 ≤ w1.heap.size := by have := f1.size; omega
          have f2 := f1.trans (hb2.mono hw1)
          have hw2 : w.heap.size + 1 ≤ w2.heap.size := by have := f2.size; omega
          have ba2 := ba1.to hb2
          have o2 := o1.to hb2
          clear g1 b1 f0 bav k0 k1 k2 k3 f1 ba1 o1 hb2
          obtain ⟨-, k0, k1, k2, k3⟩ := acc_cells ba2
          rw [decide_eq_false hno]
          go_wp2_with (first
            | (at_builtin
               refine wpl_push _ _ _ El.acc (cs := #[.int .i64 a.id, .int .i64 a.bal, .int .i64 a.non, .int .i64 a.dat]) rfl rfl rfl o2 rfl rfl (accC_one a) (by omega) (by omega) hw2 ?_
               intro A3 c3 w3 g3 hb3 hg3))
          have o3 := g3.own
          have hone : one_if a = [a] := by unfold one_if; rw [if_neg hno]
          have HONE := Lib.hid hone
          rw [show A4 (s.take 0) ++ (#[.int .i64 a.id, .int .i64 a.bal, .int .i64 a.non, .int .i64 a.dat] : Array Value).toList = A4 (s.take 0 ++ one_if a) from by rw [hone, A4_app]; rfl] at o3
          have f3 := f2.trans hb3
          have ba3 := ba2.below hb3 (by omega)
          clear hone g3 hg3 hb3 o2 k0 k1 k2 k3
          have fD : Below (w.heap.size + 1) W w3.drew := f3.drew
          have oD : Own w3.drew (w.heap.size + 1) 23 4 A3 (0 + 1) c3 (A4 (s.take 0 ++ one_if a)) := o3
          go_wp2_with fail
          refine wp_region_E [(0, true), (1, true), (2, true), (3, true), (4, true), (5, true), (6, true), (7, true), (8, true), (9, true), (10, true), (11, true), (12, true), (13, true)] (by kernel_rfl) (by kernel_rfl) (by kernel_rfl) (by decide) (by intro d v c a w h; cases d <;> exact h) ?_
          repeat (first | (refine wpC_eq (v := ?_) rfl (by rfl) ?_ ?_; rotate_left; (· (go_simp; try with_reducible rfl)); simp only [Act.put, List.setIfInBounds_toArray, List.set_cons_zero, List.set_cons_succ]) | (refine wpC_skip rfl (by rfl) ?_; simp only [Act.put, List.setIfInBounds_toArray, List.set_cons_zero, List.set_cons_succ]))
          refine wpC_nil ?_
          generalize w3.drew = Y at *
          have hput := put_at s a 0 hlow.out (by rw [HLN.out]; exact hq) (by intro y hy; rw [HX.out] at hy; cases hy)
          rw [HX.out] at hput
          simp only [List.append_nil] at hput
          have HPUT : Hid (A4 (putS s a) = A4 (s.take 0 ++ one_if a) ++ []) := (show _ = _ by rw [hput, List.append_nil])
          have hY : w.heap.size + 1 ≤ Y.heap.size := by have := fD.size; omega
          clear hput
          have slK : ∀ A', Sl Y 4 A' 0 [] := fun A' => ⟨rfl, fun h => absurd h (by omega)⟩
          by_cases hck : c = 0
          · subst hck
            go_wp2_with (first
              | (at_builtin
                 refine wpl_app _ _ _ _ El.acc rfl rfl rfl oD rfl (slK _) (by simp) (by omega) (by omega) hY ?_
                 intro AF cF wF gF))
            have oF := gF.own
            have bF := gF.below oD hY
            go_ret
            rw [← HPUT.out] at oF
            exact RSl.mk (Own.mono (B' := w.heap.size) oF (show w.heap.size ≤ w.heap.size + 1 by omega)) (hbw.trans (Below.mono (fD.trans bF) (show w.heap.size ≤ w.heap.size + 1 by omega)))
          · go_wp2_with (first
              | (at_builtin
                 refine wpl_app _ _ _ _ El.acc rfl rfl rfl oD rfl (slK _) (by simp) (by omega) (by omega) hY ?_
                 intro AF cF wF gF))
            have oF := gF.own
            have bF := gF.below oD hY
            go_ret
            rw [← HPUT.out] at oF
            exact RSl.mk (Own.mono (B' := w.heap.size) oF (show w.heap.size ≤ w.heap.size + 1 by omega)) (hbw.trans (Below.mono (fD.trans bF) (show w.heap.size ≤ w.heap.size + 1 by omega)))
      · obtain ⟨b, o, rfl⟩ := HA.out ad rfl
        go_wp2_with fail
        refine wp_region_E [(0, true), (1, true), (2, true), (3, true), (4, true), (5, true), (6, true), (7, true), (8, true), (9, true), (10, true), (11, true), (12, true), (13, true)] (by kernel_rfl) (by kernel_rfl) (by kernel_rfl) (by decide) (by intro d v c a w h; cases d <;> exact h) ?_
        repeat (first | (refine wpC_eq (v := ?_) rfl (by rfl) ?_ ?_; rotate_left; (· (go_simp; try with_reducible rfl)); simp only [Act.put, List.setIfInBounds_toArray, List.set_cons_zero, List.set_cons_succ]) | (refine wpC_skip rfl (by rfl) ?_; simp only [Act.put, List.setIfInBounds_toArray, List.set_cons_zero, List.set_cons_succ]))
        refine wpC_nil ?_
        have f0 : Below (w.heap.size + 1) W wr.drew := hf.drew
        have bav : Blk wr.drew w.heap.size 23 (accC a) := bar
        have slv := slr.drew
        clear bar hf e0
        generalize wr.drew = V at *
        have slq := slv.front4 (Nat.le_refl _)
        by_cases hno : a.none
        · go_wp2_with (first
            | (at_builtin
               refine wpl_app _ _ _ _ El.acc rfl rfl rfl (Own.made V (w.heap.size + 1) 23 #[] (by have := f0.size; omega) (Nat.zero_le _) rfl) rfl ((slq).alloc _) (A4_one _) (by omega) (by omega) (by have := f0.size; simp; omega) ?_
               intro A1 c1 w1 g1
               have g1 := Lib.hid g1
               have b1 : Below (w.heap.size + 1) V w1 := ((Below.refl _ _).alloc (by have := f0.size; omega) _).trans (g1.out.below (Own.made V (w.heap.size + 1) 23 #[] (by have := f0.size; omega) (Nat.zero_le _) rfl) (by have := f0.size; simp; omega))
               have ba1 := bav.below b1 (by omega)
               have f1 := f0.trans b1
               obtain ⟨-, k0, k1, k2, k3⟩ := acc_cells ba1))
          have o1 := g1.out.own
          simp only [Nat.zero_add, List.nil_append] at o1
          refine (refNone_any a w1).mono ?_
          rintro e w2 ⟨rfl, hb2⟩
          have hw1 : w.heap.size + 1 ≤ w1.heap.size := by have := f1.size; omega
          have f2 := f1.trans (hb2.mono hw1)
          have hw2 : w.heap.size + 1 ≤ w2.heap.size := by have := f2.size; omega
          have ba2 := ba1.to hb2
          have o2 := o1.to hb2
          clear g1 b1 f0 bav k0 k1 k2 k3 f1 ba1 o1 hb2
          obtain ⟨-, k0, k1, k2, k3⟩ := acc_cells ba2
          have hone : one_if a = [] := by unfold one_if; rw [if_pos hno]
          have HONE := Lib.hid hone
          rw [show A4 (s.take q) = A4 (s.take q ++ one_if a) from by rw [hone, List.append_nil]] at o2
          clear hone
          rw [decide_eq_true hno]
          go_wp2_with fail
          have fD : Below (w.heap.size + 1) W w2.drew := f2.drew
          have oD : Own w2.drew (w.heap.size + 1) 23 4 A1 (q) c1 (A4 (s.take q ++ one_if a)) := o2
          go_wp2_with fail
          refine wp_region_E [(0, true), (1, true), (2, true), (3, true), (4, true), (5, true), (6, true), (7, true), (8, true), (9, true), (10, true), (11, true), (12, true), (13, true)] (by kernel_rfl) (by kernel_rfl) (by kernel_rfl) (by decide) (by intro d v c a w h; cases d <;> exact h) ?_
          repeat (first | (refine wpC_eq (v := ?_) rfl (by rfl) ?_ ?_; rotate_left; (· (go_simp; try with_reducible rfl)); simp only [Act.put, List.setIfInBounds_toArray, List.set_cons_zero, List.set_cons_succ]) | (refine wpC_skip rfl (by rfl) ?_; simp only [Act.put, List.setIfInBounds_toArray, List.set_cons_zero, List.set_cons_succ]))
          refine wpC_nil ?_
          generalize w2.drew = Y at *
          have hput := put_at s a q hlow.out (by rw [HLN.out]; exact hq) (by intro y hy; rw [HX.out] at hy; cases hy)
          rw [HX.out] at hput
          simp only [List.append_nil] at hput
          have HPUT : Hid (A4 (putS s a) = A4 (s.take q ++ one_if a) ++ []) := (show _ = _ by rw [hput, List.append_nil])
          have hY : w.heap.size + 1 ≤ Y.heap.size := by have := fD.size; omega
          clear hput
          have slK : ∀ A', Sl Y 4 A' 0 [] := fun A' => ⟨rfl, fun h => absurd h (by omega)⟩
          by_cases hck : c = q
          · subst hck
            go_wp2_with (first
              | (at_builtin
                 refine wpl_app _ _ _ _ El.acc rfl rfl rfl oD rfl (slK _) (by simp) (by omega) (by omega) hY ?_
                 intro AF cF wF gF))
            have oF := gF.own
            have bF := gF.below oD hY
            go_ret
            rw [← HPUT.out] at oF
            exact RSl.mk (Own.mono (B' := w.heap.size) oF (show w.heap.size ≤ w.heap.size + 1 by omega)) (hbw.trans (Below.mono (fD.trans bF) (show w.heap.size ≤ w.heap.size + 1 by omega)))
          · go_wp2_with (first
              | (at_builtin
                 refine wpl_app _ _ _ _ El.acc rfl rfl rfl oD rfl (slK _) (by simp) (by omega) (by omega) hY ?_
                 intro AF cF wF gF))
            have oF := gF.own
            have bF := gF.below oD hY
            go_ret
            rw [← HPUT.out] at oF
            exact RSl.mk (Own.mono (B' := w.heap.size) oF (show w.heap.size ≤ w.heap.size + 1 by omega)) (hbw.trans (Below.mono (fD.trans bF) (show w.heap.size ≤ w.heap.size + 1 by omega)))
        · go_wp2_with (first
            | (at_builtin
               refine wpl_app _ _ _ _ El.acc rfl rfl rfl (Own.made V (w.heap.size + 1) 23 #[] (by have := f0.size; omega) (Nat.zero_le _) rfl) rfl ((slq).alloc _) (A4_one _) (by omega) (by omega) (by have := f0.size; simp; omega) ?_
               intro A1 c1 w1 g1
               have g1 := Lib.hid g1
               have b1 : Below (w.heap.size + 1) V w1 := ((Below.refl _ _).alloc (by have := f0.size; omega) _).trans (g1.out.below (Own.made V (w.heap.size + 1) 23 #[] (by have := f0.size; omega) (Nat.zero_le _) rfl) (by have := f0.size; simp; omega))
               have ba1 := bav.below b1 (by omega)
               have f1 := f0.trans b1
               obtain ⟨-, k0, k1, k2, k3⟩ := acc_cells ba1))
          have o1 := g1.out.own
          simp only [Nat.zero_add, List.nil_append] at o1
          refine (refNone_any a w1).mono ?_
          rintro e w2 ⟨rfl, hb2⟩
          have hw1 : w.heap.size + 1 ≤ w1.heap.size := by have := f1.size; omega
          have f2 := f1.trans (hb2.mono hw1)
          have hw2 : w.heap.size + 1 ≤ w2.heap.size := by have := f2.size; omega
          have ba2 := ba1.to hb2
          have o2 := o1.to hb2
          clear g1 b1 f0 bav k0 k1 k2 k3 f1 ba1 o1 hb2
          obtain ⟨-, k0, k1, k2, k3⟩ := acc_cells ba2
          rw [decide_eq_false hno]
          go_wp2_with (first
            | (at_builtin
               refine wpl_push _ _ _ El.acc (cs := #[.int .i64 a.id, .int .i64 a.bal, .int .i64 a.non, .int .i64 a.dat]) rfl rfl rfl o2 rfl rfl (accC_one a) (by omega) (by omega) hw2 ?_
               intro A3 c3 w3 g3 hb3 hg3))
          have o3 := g3.own
          have hone : one_if a = [a] := by unfold one_if; rw [if_neg hno]
          have HONE := Lib.hid hone
          rw [show A4 (s.take q) ++ (#[.int .i64 a.id, .int .i64 a.bal, .int .i64 a.non, .int .i64 a.dat] : Array Value).toList = A4 (s.take q ++ one_if a) from by rw [hone, A4_app]; rfl] at o3
          have f3 := f2.trans hb3
          have ba3 := ba2.below hb3 (by omega)
          clear hone g3 hg3 hb3 o2 k0 k1 k2 k3
          have fD : Below (w.heap.size + 1) W w3.drew := f3.drew
          have oD : Own w3.drew (w.heap.size + 1) 23 4 A3 (q + 1) c3 (A4 (s.take q ++ one_if a)) := o3
          go_wp2_with fail
          refine wp_region_E [(0, true), (1, true), (2, true), (3, true), (4, true), (5, true), (6, true), (7, true), (8, true), (9, true), (10, true), (11, true), (12, true), (13, true)] (by kernel_rfl) (by kernel_rfl) (by kernel_rfl) (by decide) (by intro d v c a w h; cases d <;> exact h) ?_
          repeat (first | (refine wpC_eq (v := ?_) rfl (by rfl) ?_ ?_; rotate_left; (· (go_simp; try with_reducible rfl)); simp only [Act.put, List.setIfInBounds_toArray, List.set_cons_zero, List.set_cons_succ]) | (refine wpC_skip rfl (by rfl) ?_; simp only [Act.put, List.setIfInBounds_toArray, List.set_cons_zero, List.set_cons_succ]))
          refine wpC_nil ?_
          generalize w3.drew = Y at *
          have hput := put_at s a q hlow.out (by rw [HLN.out]; exact hq) (by intro y hy; rw [HX.out] at hy; cases hy)
          rw [HX.out] at hput
          simp only [List.append_nil] at hput
          have HPUT : Hid (A4 (putS s a) = A4 (s.take q ++ one_if a) ++ []) := (show _ = _ by rw [hput, List.append_nil])
          have hY : w.heap.size + 1 ≤ Y.heap.size := by have := fD.size; omega
          clear hput
          have slK : ∀ A', Sl Y 4 A' 0 [] := fun A' => ⟨rfl, fun h => absurd h (by omega)⟩
          by_cases hck : c = q
          · subst hck
            go_wp2_with (first
              | (at_builtin
                 refine wpl_app _ _ _ _ El.acc rfl rfl rfl oD rfl (slK _) (by simp) (by omega) (by omega) hY ?_
                 intro AF cF wF gF))
            have oF := gF.own
            have bF := gF.below oD hY
            go_ret
            rw [← HPUT.out] at oF
            exact RSl.mk (Own.mono (B' := w.heap.size) oF (show w.heap.size ≤ w.heap.size + 1 by omega)) (hbw.trans (Below.mono (fD.trans bF) (show w.heap.size ≤ w.heap.size + 1 by omega)))
          · go_wp2_with (first
              | (at_builtin
                 refine wpl_app _ _ _ _ El.acc rfl rfl rfl oD rfl (slK _) (by simp) (by omega) (by omega) hY ?_
                 intro AF cF wF gF))
            have oF := gF.own
            have bF := gF.below oD hY
            go_ret
            rw [← HPUT.out] at oF
            exact RSl.mk (Own.mono (B' := w.heap.size) oF (show w.heap.size ≤ w.heap.size + 1 by omega)) (hbw.trans (Below.mono (fD.trans bF) (show w.heap.size ≤ w.heap.size + 1 by omega)))
end Go.Proofs.Ytakebmpnbdlcoaa
/- Walks: the law's states (capstanlaw7.Of), its within. -/
set_option linter.unusedSimpArgs false
set_option linter.unusedVariables false
namespace Go.Proofs.Ytakebmpnbdlcoaa
open Go.RowKit
set_option maxRecDepth 100000
theorem within_capstanlaw7 (a n : Int) (w : World) (hn : 0 < n) (hn2 : n < 1099511627776) (ha : -9223372036854775808 ≤ a) (ha2 : a < 9223372036854775808) :
    Calls Try.prog 16 #[.int .i64 a, .int .i64 n] w fun e w' => e = .returned (.int .i64 (a % n)) ∧ w = w' := by
  have e1 : a % n = if a.tmod n < 0 then a.tmod n + n else a.tmod n := by
    rw [Int.tmod_eq_emod]
    have := Int.emod_nonneg a (show n ≠ 0 by omega)
    have := Int.emod_lt_of_pos a hn
    have hnn : (n.natAbs : Int) = n := by omega
    split <;> split <;> omega
  have b1 : -n < a.tmod n := by have := Int.lt_tmod_of_pos a hn; omega
  have b2 : a.tmod n < n := Int.tmod_lt_of_pos a hn
  have H := Lib.hid e1
  clear e1
  by_cases h : a.tmod n < 0
  · go_enter Try.func16, Try.ntmps16
    go_wp2
    go_ret
    exact ⟨ret_int (by rw [H.out, if_pos h]), rfl⟩
  · go_enter Try.func16, Try.ntmps16
    go_wp2
    go_ret
    exact ⟨ret_int (by rw [H.out, if_neg (Int.not_lt.2 h)]), rfl⟩
theorem sorted_len : ∀ (s : List Acc) (lo : Int), s.Pairwise (fun x y => x.id < y.id) → (∀ x ∈ s, lo ≤ x.id ∧ x.id < 256) → lo ≤ 256 → (s.length : Int) ≤ 256 - lo
  | [], lo, _, _, h => by simp; omega
  | x :: s, lo, h1, h2, h3 => by
    have hp := List.pairwise_cons.1 h1
    have hx := h2 x (by simp)
    have := sorted_len s (x.id + 1) hp.2 (fun y hy => ⟨by have := hp.1 y hy; omega, (h2 y (by simp [hy])).2⟩) (by omega)
    simp
    omega
theorem St.len {s : List Acc} (h : St s) : s.length ≤ 256 := by
  have := sorted_len s 0 h.sorted h.ids (by omega)
  omega
/-- small numbers -/
structure Acc.small (a : Acc) : Prop where
  bal : 0 ≤ a.bal ∧ a.bal ≤ 1000
  non : 0 ≤ a.non ∧ a.non ≤ 1000
  dat : -1000 ≤ a.dat ∧ a.dat ≤ 1000
/-- a slice value that reads as a state -/
def StV (w : World) (v : Value) (s : List Acc) : Prop := ∃ A n c, v = .slice A n c ∧ Sl w 4 A n (A4 s) ∧ s.length = n ∧ n ≤ c ∧ (∀ ad, A = some ad → ∃ b o, ad = ⟨b, o, none⟩)
theorem StV.nil_ (w : World) : StV w (.slice none 0 0) [] := ⟨none, 0, 0, rfl, Sl.nil_, rfl, Nat.le_refl _, fun _ h => by cases h⟩
theorem StV.to {w w' : World} {v : Value} {s : List Acc} (h : StV w v s) (hb : Below w.heap.size w w') : StV w' v s := by
  obtain ⟨A, n, c, e, sl, h2, h3, h4⟩ := h
  exact ⟨A, n, c, e, sl.to hb, h2, h3, h4⟩
theorem StV.drew {w : World} {v : Value} {s : List Acc} (h : StV w v s) : StV w.drew v s := by
  obtain ⟨A, n, c, e, sl, h2, h3, h4⟩ := h
  exact ⟨A, n, c, e, sl.drew, h2, h3, h4⟩
theorem StV.own {w : World} {B n c : Nat} {e : TypeId} {A : Option Addr} {s : List Acc} (h : Own w B e 4 A n c (A4 s)) : StV w (.slice A n c) s := by
  refine ⟨A, n, c, rfl, h.sl, ?_, h.le.1, ?_⟩
  · have := h.len
    rw [A4_len] at this
    omega
  · intro ad had
    rcases h.2 with ⟨hv, _⟩ | ⟨g, cap, cur, hv, _⟩
    · injection hv with h1
      rw [h1] at had
      cases had
    · injection hv with h1
      rw [h1] at had
      injection had with had
      exact ⟨g, 0, had.symm⟩
theorem stPut_any (v : Value) (s : List Acc) (a : Acc) (w : World) (h : StV w v s) (hs : St s) :
    Calls Try.prog 20 #[v, accV a] w fun e w' => ∃ v', e = .returned v' ∧ StV w' v' (putS s a) ∧ Below w.heap.size w w' := by
  obtain ⟨A, n, c, rfl, sl, h2, h3, h4⟩ := h
  refine (refPut_any A n c s a w sl h2 (by have := hs.len; omega) h3 h4).mono ?_
  rintro e w' ⟨A', n', c', rfl, ho, hb⟩
  exact ⟨_, rfl, StV.own ho, hb⟩
theorem small_put {s : List Acc} (hs : St s) (h : ∀ x ∈ s, x.small) {a : Acc} (ha : a.small) : ∀ x ∈ putS s a, x.small := by
  intro x hx
  rcases (mem_put s a hs x).1 hx with ⟨rfl, _⟩ | ⟨h2, _⟩
  · exact ha
  · exact h x h2
theorem wf_of_small {a : Acc} (h1 : 0 ≤ a.id ∧ a.id < 256) (h : a.small) : a.wf := ⟨by omega, by have := h.bal; omega, by have := h.non; omega, by have := h.dat; omega⟩
theorem st_wf {s : List Acc} (hs : St s) (h : ∀ x ∈ s, x.small) : ∀ x ∈ s, x.wf := fun x hx => wf_of_small (hs.ids x hx) (h x hx)
theorem tdiv_bd (a n : Int) (hn : 0 < n) (h1 : -9223372036854775808 ≤ a) (h2 : a < 9223372036854775808) : -9223372036854775808 ≤ a.tdiv n ∧ a.tdiv n < 9223372036854775808 := by
  have key : ∀ b : Int, 0 ≤ b → 0 ≤ b.tdiv n ∧ b.tdiv n ≤ b := fun b hb => by
    rw [Int.tdiv_eq_ediv_of_nonneg hb]
    exact ⟨Int.ediv_nonneg hb (by omega), Int.ediv_le_self n hb⟩
  by_cases ha : 0 ≤ a
  · have := key a ha
    omega
  · have h3 := key (-a) (by omega)
    rw [Int.neg_tdiv] at h3
    omega
set_option maxRecDepth 100000 in
set_option maxHeartbeats 4000000 in
theorem of_any (A : Option Addr) (n c : Nat) (z : List Int) (w : World) (sl : Sl w 1 A n (z.map (Value.int .i64))) (hz : ∀ x ∈ z, -9223372036854775808 ≤ x ∧ x < 9223372036854775808) (hn : n ≤ 9223372036854775807) :
    Calls Try.prog 19 #[.slice A n c] w fun e w' => ∃ v s, e = .returned v ∧ StV w' v s ∧ St s ∧ (∀ x ∈ s, x.small) ∧ Below w.heap.size w w' := by
  have hzl : z.length = n := by have := sl.len; simp at this; omega
  have HZL := Lib.hid hzl
  have HZ := Lib.hid hz
  clear hzl hz
  go_enter Try.func19, Try.ntmps19
  go_wp2_with fail
  go_loopw [3, 4] (fun v k wr => ∃ (q : Nat) (s : List Acc), k = .int .i64 (q : Int) ∧ q ≤ n ∧ q ≤ 20 ∧ StV wr v s ∧ Hid (St s) ∧ Hid (∀ x ∈ s, x.small) ∧ Below w.heap.size w wr) (fun _ k _ => n - (intOf k).toNat)
  case atStart => exact ⟨0, [], rfl, Nat.zero_le _, Nat.zero_le _, StV.nil_ w, St.nil_, (show ∀ x ∈ ([] : List Acc), _ by simp), Below.refl _ _⟩
  case round =>
    obtain ⟨q, s, rfl, hq, hq20, hv0, hs, hsm, hb⟩ := hrel
    by_cases hlt : q < n ∧ q < 20
    · obtain ⟨h1, h2⟩ := hlt
      have t1 : (q : Int) < (n : Int) := by omega
      have t2 : (q : Int) < 20 := by omega
      obtain ⟨x, hx⟩ : ∃ x, z[q]? = some x := ⟨_, List.getElem?_eq_getElem (by rw [HZL.out]; exact h1)⟩
      obtain ⟨xlo, xhi⟩ := HZ.out x (List.mem_of_getElem? hx)
      obtain ⟨b, o, rfl, hbb⟩ := sl.some_ (by omega)
      have cx : wr.cell? ⟨b, o + q, none⟩ = some (.int .i64 x) := (sl.to hb).cell (by rw [List.getElem?_map, hx]; rfl)
      clear hx
      obtain ⟨klo, khi⟩ := tdiv_bd x 16 (by decide) xlo xhi
      obtain ⟨k, hk⟩ : ∃ k, x.tdiv 16 = k := ⟨_, rfl⟩
      rw [hk] at klo khi
      obtain ⟨k3lo, k3hi⟩ := tdiv_bd k 3 (by decide) klo khi
      obtain ⟨k3, hk3⟩ : ∃ j, k.tdiv 3 = j := ⟨_, rfl⟩
      rw [hk3] at k3lo k3hi
      obtain ⟨k7lo, k7hi⟩ := tdiv_bd k 7 (by decide) klo khi
      obtain ⟨k7, hk7⟩ : ∃ j, k.tdiv 7 = j := ⟨_, rfl⟩
      rw [hk7] at k7lo k7hi
      have k5hi := Int.tmod_lt_of_pos k (show (0 : Int) < 5 by decide)
      have k5lo := Int.lt_tmod_of_pos k (show (0 : Int) < 5 by decide)
      obtain ⟨k5, hk5⟩ : ∃ j, k.tmod 5 = j := ⟨_, rfl⟩
      rw [hk5] at k5lo k5hi
      go_wp2_with (first
        | (refine (within_capstanlaw7 _ _ _ (by omega) (by omega) (by omega) (by omega)).mono ?_
           rintro e w' ⟨rfl, rfl⟩))
      have HS : Hid (Acc.small ⟨(x % 16 * 37 + k % 3) % 256, k3 % 50, k7 % 3, k5⟩) := (show Acc.small _ from ⟨by constructor <;> (show _ ≤ _) <;> simp only [] <;> omega, by constructor <;> (show _ ≤ _) <;> simp only [] <;> omega, by constructor <;> (show _ ≤ _) <;> simp only [] <;> omega⟩)
      refine (stPut_any _ s ⟨(x % 16 * 37 + k % 3) % 256, k3 % 50, k7 % 3, k5⟩ wr hv0 hs.out).mono ?_
      rintro e w2 ⟨v', rfl, hv', hb'⟩
      have hs' := hs.out.put (a := ⟨(x % 16 * 37 + k % 3) % 256, k3 % 50, k7 % 3, k5⟩) (show 0 ≤ (x % 16 * 37 + k % 3) % 256 by omega) (show (x % 16 * 37 + k % 3) % 256 < 256 by omega)
      have hsm' := small_put hs.out hsm.out HS.out
      have hb2 := hb.trans (hb'.mono hb.size)
      have HS' := Lib.hid hs'
      have HSM' := Lib.hid hsm'
      clear hs' hsm' cx
      go_wp2_with fail
      go_roundw
      case rel => exact ⟨q + 1, _, by go_num, by omega, by omega, hv', HS', HSM', hb2⟩
      case measure => simp [intOf]; omega
    · have hc : ¬ q < n ∨ q < n ∧ ¬ q < 20 := by omega
      clear hlt
      rcases hc with h1 | ⟨h1, h2⟩
      · have t1 : ¬ (q : Int) < (n : Int) := by omega
        go_wp2_with fail
        go_ret
        exact ⟨_, rfl, s, hv0, hs.out, hsm.out, hb⟩
      · have t1 : (q : Int) < (n : Int) := by omega
        have t2 : ¬ (q : Int) < 20 := by omega
        go_wp2_with fail
        go_ret
        exact ⟨_, rfl, s, hv0, hs.out, hsm.out, hb⟩
end Go.Proofs.Ytakebmpnbdlcoaa
/- Walks: tree.Up: where a leaf leads to. -/
set_option linter.unusedSimpArgs false
set_option linter.unusedVariables false
namespace Go.Proofs.Ytakebmpnbdlcoaa
open Go.RowKit
set_option maxRecDepth 100000
def upA (a : Acc) (p : List (List UInt8)) : List UInt8 := if 0 ≤ a.id ∧ a.id < 256 then upL p a.id.toNat (leafS a) else zero32
theorem upL_len : ∀ (p : List (List UInt8)) (i : Nat) (h : List UInt8), h.length = 32 → (upL p i h).length = 32
  | [], _, h, hh => hh
  | x :: p, i, h, hh => by
    unfold upL
    apply upL_len p
    split <;> exact overS_len _ _
theorem upA_len (a : Acc) (p : List (List UInt8)) : (upA a p).length = 32 := by
  unfold upA
  split
  · exact upL_len _ _ _ (leafS_len a)
  · rfl
theorem bit_at (k q : Nat) (hk : k < 256) : bits .and .i64 ((k : Int) / 2 ^ q) 1 = (((k / 2 ^ q) % 2 : Nat) : Int) := by
  have h := Nat.div_le_self k (2 ^ q)
  rw [shr_nat, show (1 : Int) = ((1 : Nat) : Int) from rfl, and_i64_nat (k / 2 ^ q) 1 (by omega) (by omega), Nat.and_one_is_mod]
theorem H8_cut (p : List (List UInt8)) (hpa : ∀ x ∈ p, x.length = 32) (q : Nat) (x : List UInt8) (hx : p[q]? = some x) : (H8 p).toArray.extract (q * 32) (q * 32 + 32) = (B8 x).toArray := by
  obtain ⟨hlt, hq⟩ := List.getElem?_eq_some_iff.1 hx
  have hx32 : x.length = 32 := hpa x (List.mem_of_getElem? hx)
  have e1 : p = p.take q ++ [x] ++ p.drop (q + 1) := by rw [← hq]; simp
  have e3 : (H8 (p.take q)).length = q * 32 := by
    have := H8_len (p.take q) (fun y hy => hpa y (List.mem_of_mem_take hy))
    rw [List.length_take] at this
    omega
  have e2 : H8 p = H8 (p.take q) ++ B8 x ++ H8 (p.drop (q + 1)) := by
    conv => lhs; rw [e1]
    rw [H8_app, H8_app]
    simp [H8]
  have := ext_mid (H8 (p.take q)) (B8 x) (H8 (p.drop (q + 1)))
  rw [e3, B8_len, hx32] at this
  rw [e2]
  exact this
theorem index_path (t : TypeId) (p : List (List UInt8)) (hpa : ∀ x ∈ p, x.length = 32) (ht : Try.prog.underlying t = some (.array 8 27)) (q : Nat) (hq : q < 8) (x : List UInt8) (hx : p[q]? = some x) (w : World) :
    (Instr.index t (.agg (H8 p).toArray) (.int .i64 (q : Int))).run Try.prog w = .ok (.agg (B8 x).toArray) w := by
  have h1 := run_part_row (P := Try.prog) Try.underlying27 rfl info_h (H8 p).toArray (q * 32) w
  rw [H8_cut p hpa q x hx] at h1
  have h2 : (sizeOf 27).run Try.prog w = .ok 32 w := by kernel_rfl
  have hq1 : (0 : Int) ≤ (q : Int) ∧ (q : Int) < ((8 : Nat) : Int) := by omega
  unfold Instr.index
  simp only [asIntOf, Sem.run_bind, Sem.run_pure, Result.andThen_ok, run_underlying ht, hq1, and_self, if_true, h2, Int.toNat_natCast]
  exact h1
theorem upL_step (p : List (List UInt8)) (q k0 : Nat) (x cur : List UInt8) (hx : p[q]? = some x) : upL (p.drop q) (k0 / 2 ^ q) cur = upL (p.drop (q + 1)) (k0 / 2 ^ (q + 1)) (if k0 / 2 ^ q % 2 = 0 then overS cur x else overS x cur) := by
  obtain ⟨hlt, hq⟩ := List.getElem?_eq_some_iff.1 hx
  rw [List.drop_eq_getElem_cons hlt, hq]
  conv => lhs; unfold upL
  rw [Nat.div_div_eq_div_mul, Nat.pow_succ]
set_option maxRecDepth 100000 in
set_option maxHeartbeats 2000000 in
theorem up_any (a : Acc) (hw : a.wf) (p : List (List UInt8)) (hp : p.length = 8) (hpa : ∀ x ∈ p, x.length = 32) (w : World) :
    Calls Try.prog 26 #[accV a, pv p] w fun e w' => e = .returned (hv (upA a p)) ∧ Below w.heap.size w w' := by
  unfold accV pv
  obtain ⟨W, HW, hbw, ba, bp, bz⟩ : ∃ W, Hid (W = ((w.alloc (.cells (accC a).toArray 23)).alloc (.cells (H8 p).toArray 41)).alloc (.cells #[.int .u8 0, .int .u8 0, .int .u8 0, .int .u8 0, .int .u8 0, .int .u8 0, .int .u8 0, .int .u8 0, .int .u8 0, .int .u8 0, .int .u8 0, .int .u8 0, .int .u8 0, .int .u8 0, .int .u8 0, .int .u8 0, .int .u8 0, .int .u8 0, .int .u8 0, .int .u8 0, .int .u8 0, .int .u8 0, .int .u8 0, .int .u8 0, .int .u8 0, .int .u8 0, .int .u8 0, .int .u8 0, .int .u8 0, .int .u8 0, .int .u8 0, .int .u8 0] 27)) ∧ Below w.heap.size w W ∧
      Blk W w.heap.size 23 (accC a) ∧ Blk W (w.heap.size + 1) 41 (H8 p) ∧ Blk W (w.heap.size + 2) 27 (B8 zero32) := by
    refine ⟨_, rfl, (((Below.refl _ _).alloc (Nat.le_refl _) _).alloc (by simp) _).alloc (by simp; omega) _, ?_, ?_, ?_⟩
    · exact (Blk.new w (accC a).toArray 23).to (((Below.refl _ _).alloc (Nat.le_refl _) _).alloc (by simp) _)
    · have := (Blk.new (w.alloc (.cells (accC a).toArray 23)) (H8 p).toArray 41).to ((Below.refl _ _).alloc (Nat.le_refl _) (.cells #[.int .u8 0, .int .u8 0, .int .u8 0, .int .u8 0, .int .u8 0, .int .u8 0, .int .u8 0, .int .u8 0, .int .u8 0, .int .u8 0, .int .u8 0, .int .u8 0, .int .u8 0, .int .u8 0, .int .u8 0, .int .u8 0, .int .u8 0, .int .u8 0, .int .u8 0, .int .u8 0, .int .u8 0, .int .u8 0, .int .u8 0, .int .u8 0, .int .u8 0, .int .u8 0, .int .u8 0, .int .u8 0, .int .u8 0, .int .u8 0, .int .u8 0, .int .u8 0] 27))
      simpa using this
    · have := Blk.new ((w.alloc (.cells (accC a).toArray 23)).alloc (.cells (H8 p).toArray 41)) #[.int .u8 0, .int .u8 0, .int .u8 0, .int .u8 0, .int .u8 0, .int .u8 0, .int .u8 0, .int .u8 0, .int .u8 0, .int .u8 0, .int .u8 0, .int .u8 0, .int .u8 0, .int .u8 0, .int .u8 0, .int .u8 0, .int .u8 0, .int .u8 0, .int .u8 0, .int .u8 0, .int .u8 0, .int .u8 0, .int .u8 0, .int .u8 0, .int .u8 0, .int .u8 0, .int .u8 0, .int .u8 0, .int .u8 0, .int .u8 0, .int .u8 0, .int .u8 0] 27
      rw [show ((w.alloc (.cells (accC a).toArray 23)).alloc (.cells (H8 p).toArray 41)).heap.size = w.heap.size + 2 from by simp] at this
      exact this
  have HWF := Lib.hid hw
  have HPL := Lib.hid hp
  have HPA := Lib.hid hpa
  have IPP := Lib.hid (info_path hp hpa)
  have hWz := bz.lt
  obtain ⟨-, c0, c1, c2, c3⟩ := acc_cells ba
  clear hw hp hpa
  by_cases hin : 0 ≤ a.id ∧ a.id < 256
  · have HU : Hid (upA a p = upL p a.id.toNat (leafS a)) := (show _ = _ by unfold upA; rw [if_pos hin])
    obtain ⟨k0, hk0⟩ : ∃ k : Nat, a.id = (k : Int) := ⟨a.id.toNat, by omega⟩
    have hk256 : k0 < 256 := by omega
    have HK0 := Lib.hid hk0
    clear hk0
    go_enter Try.func26, Try.ntmps26
    go_upto_region 1 with fail
    refine wp_at HW.out ?_
    clear HW
    go_wp2_with fail
    refine (some_yes a.id W hin).mono ?_
    rintro e W' ⟨rfl, rfl⟩
    clear hin
    go_wp2_with fail
    refine (leaf_any a HWF.out W).mono ?_
    rintro e w1 ⟨rfl, hb1⟩
    have HLL := Lib.hid (leafS_len a)
    have ba1 := ba.to hb1
    have bp1 := bp.to hb1
    have bz1 := bz.to hb1
    have f1 := hbw.trans (hb1.mono hbw.size)
    have hw1 := hb1.size
    unfold hv
    clear ba bp bz hbw hb1 c0 c1 c2 c3
    go_wp2_with (first
      | (refine wpl_store_new rfl _ _ _ rfl 27 _ (B8 (leafS a)) rfl rfl (by rw [B8_len, HLL.out]; rfl) (info_hash HLL.out) (B8_one _) ?_
         intro w2 b2 hb2
         simp only [Act.put, List.setIfInBounds_toArray, List.set_cons_zero, List.set_cons_succ]
         have bp2 := bp1.to hb2)
      | (refine wpl_load_fld (by rfl) _ _ rfl (w.heap.size + 1) 0 rfl (H8 p) _ bp2.range Try.underlying41 rfl IPP.out ?_))
    go_loopw [16] (fun k wr => ∃ (q : Nat) (cur : List UInt8), k = .int .i64 (q : Int) ∧ q ≤ 8 ∧ Hid (cur.length = 32) ∧ Hid (upL p k0 (leafS a) = upL (p.drop q) (k0 / 2 ^ q) cur) ∧ Blk wr w1.heap.size 27 (B8 cur) ∧ RBut (some w1.heap.size) w2 wr) (fun k _ => 8 - (intOf k).toNat)
    case atStart => exact ⟨0, leafS a, rfl, Nat.zero_le _, HLL, (show _ = _ by rw [Nat.pow_zero, Nat.div_one, List.drop_zero]), b2, RBut.refl_ _ _⟩
    case round =>
      clear b2
      obtain ⟨q, cur, rfl, hq, HCL, hrel, bc, hbu⟩ := hrel
      by_cases hlt : q < 8
      · have t1 : (q : Int) < 8 := by omega
        obtain ⟨x, hx⟩ : ∃ x, p[q]? = some x := ⟨_, List.getElem?_eq_getElem (by rw [HPL.out]; exact hlt)⟩
        have HX := Lib.hid hx
        have HXL := Lib.hid (HPA.out x (List.mem_of_getElem? hx))
        have q1 : ∀ w', (Instr.index 41 (.agg (H8 p).toArray) (.int .i64 (q : Int))).run Try.prog w' = .ok (.agg (B8 x).toArray) w' := fun w' => index_path _ p HPA.out Try.underlying41 q hlt x hx w'
        have hb2s := hb2.size
        have hbus := hbu.size
        have ha4 : ∀ o : Obj, (wr.alloc o).cell? ⟨w.heap.size, 0, none⟩ = some (.int .i64 a.id) := fun o => by
          have h := ((ba1.to hb2).but hbu (by intro e; injection e; omega)).to ((Below.refl wr.heap.size wr).alloc (Nat.le_refl _) o)
          exact (acc_cells h).2.1
        have hbit := bit_at k0 q hk256
        rw [← HK0.out] at hbit
        clear hx
        by_cases hev : k0 / 2 ^ q % 2 = 0
        · rw [hev] at hbit
          have HEV := Lib.hid hev
          clear hev
          have CE := Lib.hid (overS_len cur x)
          have HST : Hid (upL p k0 (leafS a) = upL (p.drop (q + 1)) (k0 / 2 ^ (q + 1)) (overS cur x)) := (show _ = _ by rw [hrel.out, upL_step p q k0 x cur HX.out, if_pos HEV.out])
          go_wp2_with (first
            | (refine wpl_store_new rfl _ _ _ rfl 27 _ (B8 x) rfl rfl (by rw [B8_len, HXL.out]; rfl) (info_hash HXL.out) (B8_one _) ?_
               intro w4 b4 hb4
               simp only [Act.put, List.setIfInBounds_toArray, List.set_cons_zero, List.set_cons_succ]
               have bc4 := bc.to hb4
               have hc0 := (acc_cells (((ba1.to hb2).but hbu (by intro e; injection e; omega)).to hb4)).2.1)
            | (refine wpl_load_fld (by rfl) _ _ rfl w1.heap.size 0 rfl (B8 cur) _ bc4.range Try.underlying27 rfl (info_hash HCL.out) ?_)
            | (refine wpl_load_fld (by rfl) _ _ rfl wr.heap.size 0 rfl (B8 x) _ b4.range Try.underlying27 rfl (info_hash HXL.out) ?_))
          refine (above_any cur x HCL.out HXL.out _).mono ?_
          rintro e w5 ⟨rfl, hb5⟩
          have bc5 := bc4.to hb5
          unfold hv
          go_wp2_with (first
            | (refine wpl_store_fld (by rfl) _ _ _ rfl w1.heap.size 0 _ _ (B8 (overS cur x)) rfl _ rfl rfl bc5 (by rw [B8_len, B8_len, CE.out, HCL.out]; decide) (info_hash CE.out) (B8_one _) ?_
               intro w6 bc6 bu6
               rw [put_all _ _ (by rw [B8_len, B8_len, CE.out, HCL.out])] at bc6))
          go_roundw
          case rel => exact ⟨q + 1, overS cur x, by go_num, by omega, CE, HST, bc6, RBut.trans_ _ _ _ _ (RBut.trans_ _ _ _ _ hbu (RBut.trans_ _ _ _ _ (RBut.of_below hb4) (RBut.of_below hb5))) bu6⟩
          case measure => simp [intOf]; omega
        · have hodd : k0 / 2 ^ q % 2 = 1 := by omega
          rw [hodd] at hbit
          have HEV := Lib.hid hev
          clear hev hodd
          have CE := Lib.hid (overS_len x cur)
          have HST : Hid (upL p k0 (leafS a) = upL (p.drop (q + 1)) (k0 / 2 ^ (q + 1)) (overS x cur)) := (show _ = _ by rw [hrel.out, upL_step p q k0 x cur HX.out, if_neg HEV.out])
          go_wp2_with (first
            | (refine wpl_store_new rfl _ _ _ rfl 27 _ (B8 x) rfl rfl (by rw [B8_len, HXL.out]; rfl) (info_hash HXL.out) (B8_one _) ?_
               intro w4 b4 hb4
               simp only [Act.put, List.setIfInBounds_toArray, List.set_cons_zero, List.set_cons_succ]
               have bc4 := bc.to hb4
               have hc0 := (acc_cells (((ba1.to hb2).but hbu (by intro e; injection e; omega)).to hb4)).2.1)
            | (refine wpl_load_fld (by rfl) _ _ rfl w1.heap.size 0 rfl (B8 cur) _ bc4.range Try.underlying27 rfl (info_hash HCL.out) ?_)
            | (refine wpl_load_fld (by rfl) _ _ rfl wr.heap.size 0 rfl (B8 x) _ b4.range Try.underlying27 rfl (info_hash HXL.out) ?_))
          refine (above_any x cur HXL.out HCL.out _).mono ?_
          rintro e w5 ⟨rfl, hb5⟩
          have bc5 := bc4.to hb5
          unfold hv
          go_wp2_with (first
            | (refine wpl_store_fld (by rfl) _ _ _ rfl w1.heap.size 0 _ _ (B8 (overS x cur)) rfl _ rfl rfl bc5 (by rw [B8_len, B8_len, CE.out, HCL.out]; decide) (info_hash CE.out) (B8_one _) ?_
               intro w6 bc6 bu6
               rw [put_all _ _ (by rw [B8_len, B8_len, CE.out, HCL.out])] at bc6))
          go_roundw
          case rel => exact ⟨q + 1, overS x cur, by go_num, by omega, CE, HST, bc6, RBut.trans_ _ _ _ _ (RBut.trans_ _ _ _ _ hbu (RBut.trans_ _ _ _ _ (RBut.of_below hb4) (RBut.of_below hb5))) bu6⟩
          case measure => simp [intOf]; omega
      · obtain rfl : q = 8 := by omega
        have t1 : ¬ (8 : Int) < 8 := by omega
        have HEND : Hid (upA a p = cur) := (show _ = _ by
          rw [HU.out, HK0.out]
          show upL p k0 (leafS a) = cur
          rw [hrel.out, List.drop_eq_nil_of_le (by rw [HPL.out]; exact Nat.le_refl _)]
          rfl)
        have hb2s := hb2.size
        have bz3 := (bz1.to hb2).but hbu (by intro e; injection e; omega)
        have f2 := f1.trans (hb2.mono f1.size)
        have f3 := f2.trans (below_but hbu (by omega) f2.size)
        go_wp2_with (first
          | (refine wpl_load_fld (by rfl) _ _ rfl w1.heap.size 0 rfl (B8 cur) _ bc.range Try.underlying27 rfl (info_hash HCL.out) ?_)
          | (refine wpl_store_fld (by rfl) _ _ _ rfl (w.heap.size + 2) 0 _ _ (B8 cur) rfl _ rfl rfl bz3 (by rw [B8_len, HCL.out]; decide) (info_hash HCL.out) (B8_one _) ?_
             intro w3 bz4 bu4
             rw [put_all _ _ (by rw [B8_len, HCL.out]; rfl)] at bz4))
        exact bodyPost_ret (v := hv cur) (results_blk Try.results26 rfl bz4 Try.underlying27 rfl (info_hash HCL.out)) rfl ⟨by rw [HEND.out], f3.trans (below_but bu4 (by omega) f3.size)⟩
  · have HU : Hid (upA a p = zero32) := (show _ = _ by unfold upA; rw [if_neg hin])
    go_enter Try.func26, Try.ntmps26
    go_upto_region 1 with fail
    refine wp_at HW.out ?_
    clear HW
    go_wp2_with fail
    refine (some_no a.id W hin).mono ?_
    rintro e W' ⟨rfl, rfl⟩
    clear hin
    go_wp2_with (first
      | (refine wpl_build (by rfl) _ _ rfl _ built_zero_ ?_)
      | (refine wpl_store_fld (by rfl) _ _ _ rfl (w.heap.size + 2) 0 _ _ (B8 zero32) rfl _ rfl rfl bz (by decide) (info_hash rfl) (B8_one _) ?_
         intro w3 bz4 bu4
         rw [put_all _ _ rfl] at bz4))
    exact bodyPost_ret (v := hv zero32) (results_blk Try.results26 rfl bz4 Try.underlying27 rfl (info_hash rfl)) rfl ⟨by rw [HU.out], hbw.trans (below_but bu4 (by omega) hbw.size)⟩
end Go.Proofs.Ytakebmpnbdlcoaa
/- Plain law of trees: the empty tree, the tree of one account; what a change does. -/
set_option linter.unusedSimpArgs false
set_option linter.unusedVariables false
namespace Go.Proofs.Ytakebmpnbdlcoaa
theorem halve_rep (m : Nat) : halve (List.replicate (2 * m) zero32) = List.replicate m zero32 := by
  refine List.ext_getElem? fun k => ?_
  unfold halve
  rw [List.getElem?_map, List.length_replicate, List.getElem?_replicate]
  by_cases hk : k < m
  · rw [List.getElem?_range (by omega), if_pos hk]
    simp only [Option.map_some, List.getD_eq_getElem?_getD, List.getElem?_replicate]
    rw [if_pos (by omega), if_pos (by omega)]
    rw [Option.getD_some, overS_zero]
  · rw [if_neg hk, List.getElem?_eq_none (by simp; omega)]
    rfl
theorem lev_rep : ∀ (j k : Nat), lev j (List.replicate (2 ^ (j + k)) zero32) = List.replicate (2 ^ k) zero32
  | 0, k => by rw [Nat.zero_add]; rfl
  | j + 1, k => by
    rw [lev_in, show j + 1 + k = (j + k) + 1 from by omega, Nat.pow_succ, Nat.mul_comm, halve_rep]
    exact lev_rep j k
theorem sib_rep (k i : Nat) (hk : k ≤ 8) : sib k i (List.replicate 256 zero32) = zero32 := by
  have h := lev_rep k (8 - k)
  rw [show k + (8 - k) = 8 from by omega] at h
  unfold sib
  rw [show (256 : Nat) = 2 ^ 8 from rfl, h, List.getD_eq_getElem?_getD, List.getElem?_replicate]
  split <;> rfl
theorem root_nil : rootJ 8 (leavesL []) = zero32 := by
  rw [rootJ_lev]
  exact sib_rep 8 256 (by omega)
theorem prove_rep (i : Nat) : proveJ 8 (List.replicate 256 zero32) i = path0 := by
  unfold proveJ
  rw [List.map_congr_left (g := fun _ => zero32) (fun k hk => sib_rep k i (by have := List.mem_range.1 hk; omega))]
  rfl
theorem root_one (a : Acc) (h : 0 ≤ a.id ∧ a.id < 256) : rootJ 8 (leavesL [a]) = upA a path0 := by
  have e : leavesL [a] = (List.replicate 256 zero32).set a.id.toNat (leafS a) := by
    show setL _ a = _
    unfold setL
    rw [if_pos h]
  have h1 := up_prove 8 (leavesL [a]) a.id.toNat (leavesL_len _) (by have := h.2; show a.id.toNat < 256; omega)
  rw [← h1]
  unfold upA
  rw [if_pos h]
  conv => lhs; rw [e]
  rw [prove_set, prove_rep]
  congr 1
  rw [List.getD_eq_getElem?_getD, List.getElem?_set, if_pos rfl, if_pos (by rw [List.length_replicate]; omega)]
  rfl
theorem known_ne : upA ⟨3, 5, 0, 0⟩ path0 ≠ zero32 := by decide +kernel
/-- the law's own: an account leads to the root by its proof -/
theorem up_own {s : List Acc} (hs : St s) {a : Acc} (h : 0 ≤ a.id ∧ a.id < 256) : upA a (proveS s a.id) = rootJ 8 (leavesL (putS s a)) := by
  rw [leaves_put hs h.1 h.2]
  have hi : a.id.toNat < 256 := by omega
  have h1 := up_prove 8 ((leavesL s).set a.id.toNat (leafS a)) a.id.toNat (by rw [List.length_set, leavesL_len]) hi
  rw [prove_set, List.getD_eq_getElem?_getD, List.getElem?_set, if_pos rfl, if_pos (by rw [leavesL_len]; exact hi)] at h1
  unfold upA proveS
  rw [if_pos h, if_pos h]
  exact h1
theorem put_get {s : List Acc} (hs : St s) {i : Int} (h : 0 ≤ i ∧ i < 256) : putS s (getS s i) = s := by
  have hid : (getS s i).id = i := get_id s i
  refine st_ext _ _ (hs.put (by rw [hid]; exact h.1) (by rw [hid]; exact h.2)) hs fun j => ?_
  rw [get_put hs, hid]
  by_cases hj : j = i
  · rw [if_pos hj, hj]
  · rw [if_neg hj]
theorem up_get {s : List Acc} (hs : St s) {i : Int} (h : 0 ≤ i ∧ i < 256) : upA (getS s i) (proveS s i) = rootJ 8 (leavesL s) := by
  have hid : (getS s i).id = i := get_id s i
  have := up_own hs (a := getS s i) (by rw [hid]; exact h)
  rw [hid, put_get hs h] at this
  exact this
end Go.Proofs.Ytakebmpnbdlcoaa
/- Walks: the document's proofs (capstanref7.Prove). -/
set_option linter.unusedSimpArgs false
set_option linter.unusedVariables false
namespace Go.Proofs.Ytakebmpnbdlcoaa
open Go.RowKit
set_option maxRecDepth 100000
theorem info_rpath {p : List (List UInt8)} (h : p.length = 8) (ha : ∀ x ∈ p, x.length = 32) : (Try.prog.info? 43).map (·.size) = some (H8 p).length := by rw [H8_len p ha, h]; kernel_rfl
theorem zero_rpath : Try.zeroCells43 = (H8 path0).toArray := by kernel_rfl
theorem built_rpath : Try.prog.built 43 [] = some (H8 path0).toArray := by kernel_rfl
theorem xorp_lt (k q : Nat) (hk : k < 256) (hq : q < 8) : (k / 2 ^ q) ^^^ 1 < 2 ^ (8 - q) := by
  have h1 : k / 2 ^ q < 2 ^ (8 - q) := by
    rw [Nat.div_lt_iff_lt_mul (Nat.two_pow_pos q), ← Nat.pow_add, show 8 - q + q = 8 from by omega]
    exact hk
  exact Nat.xor_lt_two_pow h1 (Nat.one_lt_two_pow (by omega))
theorem xor_at (m : Nat) (hm : m < 256) : bits .xor .i64 (m : Int) 1 = ((m ^^^ 1 : Nat) : Int) := xor_i64_nat m 1 (by omega) (by omega)
set_option maxRecDepth 100000 in
set_option maxHeartbeats 4000000 in
theorem refProve_any (A : Option Addr) (n c : Nat) (s : List Acc) (i : Int) (w : World) (sl : Sl w 4 A n (A4 s)) (hlen : s.length = n) (hn : n ≤ 1099511627776) (hwf : ∀ x ∈ s, x.wf) (hi : -9223372036854775808 ≤ i) (hi2 : i < 9223372036854775808) :
    Calls Try.prog 25 #[.slice A n c, .int .i64 i] w fun e w' => e = .returned (pv (proveS s i)) ∧ Below w.heap.size w w' := by
  obtain ⟨W, HW, hbw, bz⟩ : ∃ W, Hid (W = w.alloc (.cells Try.zeroCells43 43)) ∧ Below w.heap.size w W ∧ Blk W w.heap.size 43 (H8 path0) := by
    refine ⟨_, rfl, (Below.refl _ _).alloc (Nat.le_refl _) _, ?_⟩
    have := Blk.new w Try.zeroCells43 43
    rwa [show Try.zeroCells43.toList = H8 path0 from by rw [zero_rpath]] at this
  have HLN := Lib.hid hlen
  have HWF := Lib.hid hwf
  have ip0 := info_rpath (p := path0) rfl (by decide)
  have IP0 := Lib.hid ip0
  have HLN0 : Hid ((H8 path0).length = 256) := (by show _ = _; decide)
  clear hlen hwf ip0
  have hWz := bz.lt
  by_cases hin : 0 ≤ i ∧ i < 256
  · obtain ⟨k0, rfl⟩ : ∃ k : Nat, i = (k : Int) := ⟨i.toNat, by omega⟩
    have hk256 : k0 < 256 := by omega
    have HP : Hid (proveS s (k0 : Int) = proveJ 8 (leavesL s) k0) := (show _ = _ by unfold proveS; rw [if_pos hin]; rfl)
    have t0 : ¬ (k0 : Int) < 0 := by omega
    have t00 : (k0 : Int) < 256 := by omega
    clear hin hi hi2
    go_enter Try.func25, Try.ntmps25
    go_upto_region 1 with fail
    refine wp_at HW.out ?_
    clear HW
    go_wp2_with (first
      | (refine wpl_build (by rfl) _ _ rfl _ built_rpath ?_)
      | (refine wpl_store_new rfl _ _ _ rfl 43 _ (H8 path0) rfl rfl (by rw [HLN0.out]; kernel_rfl) IP0.out (H8_one _) ?_
         intro W1 bp hb1
         simp only [Act.put, List.setIfInBounds_toArray, List.set_cons_zero, List.set_cons_succ]))
    have bz1 := bz.to hb1
    have f1 := hbw.trans (hb1.mono hbw.size)
    have hW1 := bp.lt
    clear bz hb1 hbw
    refine (leaves_any A n c s W1 (sl.to f1) HLN.out hn HWF.out).mono ?_
    rintro e w1 ⟨A1, n1, c1, rfl, ho1, hb1⟩
    have hHL := leavesL_len s
    have hHA := leavesL_all s
    obtain ⟨L, hLe⟩ : ∃ L, leavesL s = L := ⟨_, rfl⟩
    rw [hLe] at ho1 HP hHL hHA
    have HLL := Lib.hid hHL
    have HLA := Lib.hid hHA
    clear hLe hHL hHA
    obtain rfl : 256 = n1 := by
      have h1 := ho1.len
      have h2 := H8_len L HLA.out
      rw [HLL.out] at h2
      omega
    obtain ⟨g, rest, rfl, hg, bk, hlen⟩ := own_row ho1 (by decide)
    have hc := ho1.le
    have bz2 := bz1.to hb1
    have bp2 := bp.to hb1
    have f2 := f1.trans (hb1.mono f1.size)
    have hgz : w.heap.size < g := by omega
    have hgp : W.heap.size < g := by omega
    clear bz1 bp hb1 ho1 hg f1
    go_wp2_with fail
    go_loopw [1, 6, 7] (fun id l k wr => ∃ (q M : Nat) (cur : List (List UInt8)) (rest : List Value), id = .int .i64 ((k0 / 2 ^ q : Nat) : Int) ∧ k = .int .i64 (q : Int) ∧ q ≤ 8 ∧ Hid (M = 2 ^ (8 - q)) ∧ l = .slice (some ⟨g, 0, none⟩) M c1 ∧ M ≤ 256 ∧ Hid (cur.length = M) ∧ Hid (∀ x ∈ cur, x.length = 32) ∧ Hid (lev q L = cur) ∧ Blk wr g 27 (H8 cur ++ rest) ∧ Blk wr w.heap.size 43 (H8 path0) ∧ Blk wr W.heap.size 43 (H8 (halfP L k0 q)) ∧ Below w.heap.size w wr) (fun _ _ k _ => 8 - (intOf k).toNat)
    case atStart => exact ⟨0, 256, L, rest, by rw [Nat.pow_zero, Nat.div_one], rfl, Nat.zero_le _, rfl, rfl, Nat.le_refl _, HLL, HLA, rfl, bk, bz2, bp2, f2⟩
    case round =>
      clear bk bz2 bp2 f2
      obtain ⟨q, L2, cur, rest, rfl, rfl, hq, HLj, rfl, hM256, HCL, HCA, HCU, bk, bz, bp, hf⟩ := hrel
      have hm256 : k0 / 2 ^ q < 256 := Nat.lt_of_le_of_lt (Nat.div_le_self _ _) hk256
      have HQ : ∃ m, m = k0 / 2 ^ q := ⟨_, rfl⟩
      obtain ⟨m, hm⟩ := HQ
      rw [← hm] at hm256 ⊢
      have HMQ := Lib.hid hm
      by_cases hlt : q < 8
      · have t1 : (q : Int) < 8 := by omega
        obtain ⟨M, hM⟩ : ∃ M, M = 2 ^ (8 - (q + 1)) := ⟨_, rfl⟩
        have hLM : L2 = 2 * M := by rw [HLj.out, hM, show 8 - q = (8 - (q + 1)) + 1 from by omega, Nat.pow_succ]; omega
        have HM := Lib.hid hM
        have hxl : m ^^^ 1 < L2 := by rw [HLj.out, hm]; exact xorp_lt k0 q hk256 hlt
        obtain ⟨x0, hx0⟩ : ∃ x, cur[m ^^^ 1]? = some x := ⟨_, List.getElem?_eq_getElem (by rw [HCL.out]; exact hxl)⟩
        have hx32 := HCA.out x0 (List.mem_of_getElem? hx0)
        have hsib : sib q k0 L = x0 := by
          unfold sib
          rw [HCU.out, ← hm, List.getD_eq_getElem?_getD, hx0]
          rfl
        have hpu := put_H8 (halfP L k0 q) [] q x0 (halfP_all HLA.out k0 q) hx32 (by rw [halfP_len L k0 q hq]; omega)
        rw [List.append_nil, List.append_nil, ← hsib, ← halfP_next L k0 q hlt, hsib] at hpu
        have HPU := Lib.hid hpu
        have HLE : Hid (q * 32 + 32 ≤ (H8 (halfP L k0 q)).length) := (by
          show _ ≤ _
          rw [H8_len _ (halfP_all HLA.out k0 q), halfP_len L k0 q hq]
          omega)
        have r0 := bk.sub ((m ^^^ 1) * 32) (B8 x0) (H8_at_ _ HCA.out rest (m ^^^ 1) x0 hx0)
        have HX32 := Lib.hid hx32
        have hbx := xor_at m hm256
        have kx1 : ((m ^^^ 1 : Nat) : Int) < (L2 : Int) := by omega
        have u1 : ((L2 : Nat) : Int) / 2 = (M : Int) := by omega
        have hh : cur.length / 2 = M := by rw [HCL.out]; omega
        have HH := Lib.hid hh
        have l2 : 2 * M ≤ L2 := by omega
        have l3 : L2 ≤ 2 * M := by omega
        clear hM hh hLM hx0 hx32 hsib hpu hm
        go_wp2_with (first
          | (refine wpl_load_fld (by rfl) _ _ rfl g ((m ^^^ 1) * 32) rfl (B8 x0) _ r0 Try.underlying27 rfl (info_hash HX32.out) ?_)
          | (refine wpl_store_fld (by rfl) _ _ _ rfl W.heap.size (q * 32) _ _ (B8 x0) rfl _ rfl rfl bp (by rw [B8_len, HX32.out]; exact HLE.out) (info_hash HX32.out) (B8_one _) ?_
             intro w9 bp9 bu9
             rw [HPU.out] at bp9
             simp only [Act.put, List.setIfInBounds_toArray, List.set_cons_zero, List.set_cons_succ]
             have bk9 := bk.but bu9 (by intro e; injection e; omega)
             have bz9 := bz.but bu9 (by intro e; injection e; omega)
             have f9 := hf.trans (below_but bu9 (by omega) hf.size)))
        have hMM : M ≤ 128 := by omega
        clear bk bz bp hf bu9 kx1 hbx r0 HX32 HPU HLE
        go_loopw [8] (fun i wr => ∃ i' : Nat, i = .int .i64 i' ∧ i' ≤ M ∧ Blk wr g 27 (H8 (part_ cur i') ++ rest) ∧ Blk wr w.heap.size 43 (H8 path0) ∧ Blk wr W.heap.size 43 (H8 (halfP L k0 (q + 1))) ∧ Below w.heap.size w wr) (fun i _ => M - (intOf i).toNat)
        case atStart => exact ⟨0, rfl, Nat.zero_le _, by rw [part_zero]; exact bk9, bz9, bp9, f9⟩
        case round =>
          clear bk9 bz9 bp9 f9
          obtain ⟨i, rfl, hi, bk, bz, bp, hf⟩ := hrel
          by_cases hlt2 : i < M
          · obtain ⟨x, hx⟩ : ∃ x, cur[2 * i]? = some x := ⟨_, List.getElem?_eq_getElem (by rw [HCL.out]; omega)⟩
            obtain ⟨y, hy⟩ : ∃ y, cur[2 * i + 1]? = some y := ⟨_, List.getElem?_eq_getElem (by rw [HCL.out]; omega)⟩
            have xl := HCA.out x (List.mem_of_getElem? hx)
            have yl := HCA.out y (List.mem_of_getElem? hy)
            have pa := part_all cur HCA.out i
            have px : (part_ cur i)[2 * i]? = some x := by rw [part_get cur i (2 * i) (by rw [HH.out]; omega) (by omega)]; exact hx
            have py : (part_ cur i)[2 * i + 1]? = some y := by rw [part_get cur i (2 * i + 1) (by rw [HH.out]; omega) (by omega)]; exact hy
            have pl := part_len cur i (by rw [HH.out]; omega)
            rw [HCL.out] at pl
            have hp := put_H8 (part_ cur i) rest i (overS x y) pa (overS_len x y) (by rw [pl]; omega)
            rw [← part_next cur i (by rw [HH.out]; omega) x y hx hy] at hp
            have rx := (show Blk wr.drew g 27 (H8 (part_ cur i) ++ rest) from bk).sub (2 * i * 32) (B8 x) (H8_at_ _ pa rest (2 * i) x px)
            have ry := (show Blk wr.drew g 27 (H8 (part_ cur i) ++ rest) from bk).sub ((2 * i + 1) * 32) (B8 y) (H8_at_ _ pa rest (2 * i + 1) y py)
            have hlen : (i * 32 + 32 ≤ (H8 (part_ cur i) ++ rest).length) := by
              have := H8_len _ pa
              rw [pl] at this
              rw [List.length_append]
              omega
            have HP := Lib.hid hp
            have HLEN := Lib.hid hlen
            have XL := Lib.hid xl
            have YL := Lib.hid yl
            clear hx hy pa px py pl hp hlen xl yl
            have t2 : (i : Int) < (M : Int) := by omega
            have k1 : IntKind.i64.wrap (2 * (i : Int)) = 2 * (i : Int) := IntWalk.i64_in _ (by omega)
            have k2 : IntKind.i64.wrap (2 * (i : Int) + 1) = 2 * (i : Int) + 1 := IntWalk.i64_in _ (by omega)
            have k3 : 0 ≤ 2 * (i : Int) := by omega
            have k4 : 2 * (i : Int) < (L2 : Int) := by omega
            have k5 : 0 ≤ 2 * (i : Int) + 1 := by omega
            have k6 : 2 * (i : Int) + 1 < (L2 : Int) := by omega
            have k7 : (2 * (i : Int)).toNat = 2 * i := by omega
            have k8 : (2 * (i : Int) + 1).toNat = 2 * i + 1 := by omega
            have k9 : (i : Int) < (L2 : Int) := by omega
            go_wp2_with fail
            refine wp_region_T [0, 1, 2, 3, 4, 5, 7, 8, 9, 10, 11] 6 12 [(12, false), (13, false), (14, false), (15, false)] [(6, false), (13, false), (14, false), (15, false)] (fun _ _ => True) (by kernel_rfl) (by kernel_rfl) (by kernel_rfl) (by decide) (by decide) (fun _ => trivial) (fun _ _ _ _ _ => trivial) (by intro d v c a w h; cases d <;> exact h) ?_
            repeat (first | (refine wpT_quiet (v := ?_) rfl (by rfl) ?_ ?_; rotate_left; (· (intro w' hw'; go_simp; try with_reducible rfl)); simp only [Act.put, List.setIfInBounds_toArray, List.set_cons_zero, List.set_cons_succ]) | (refine wpT_skip rfl (by rfl) ?_; simp only [Act.put, List.setIfInBounds_toArray, List.set_cons_zero, List.set_cons_succ]))
            refine wpT_nil ?_ ?_
            · refine wpC_load_f (fun _ => trivial) rfl (by rfl) _ _ rfl g (2 * i * 32) rfl (B8 x) _ rx Try.underlying27 rfl (info_hash XL.out) ?_
              simp only [Act.put, List.setIfInBounds_toArray, List.set_cons_zero, List.set_cons_succ]
              refine wpC_load_f (fun _ => trivial) rfl (by rfl) _ _ rfl g ((2 * i + 1) * 32) rfl (B8 y) _ ry Try.underlying27 rfl (info_hash YL.out) ?_
              simp only [Act.put, List.setIfInBounds_toArray, List.set_cons_zero, List.set_cons_succ]
              clear rx ry
              (refine wpC_loud rfl (by rfl) ?_; intro K hK; go_simp)
              refine (refOver_any x y XL.out YL.out _).mono ?_
              rintro e w2 ⟨rfl, hb2⟩
              (refine hK.out _ _ (trivial) ?_; clear hK K; try simp only [Act.put, List.setIfInBounds_toArray, List.set_cons_zero, List.set_cons_succ])
              unfold hv
              have bk2 := Blk.to (w := wr.drew) bk hb2
              have bz2 := Blk.to (w := wr.drew) bz hb2
              have bp2 := Blk.to (w := wr.drew) bp hb2
              have f2 := hf.drew.trans (hb2.mono hf.drew.size)
              repeat (first | (refine wpC_quiet (v := ?_) rfl (by rfl) ?_ ?_; rotate_left; (· (intro w' hw'; go_simp; try with_reducible rfl)); simp only [Act.put, List.setIfInBounds_toArray, List.set_cons_zero, List.set_cons_succ]) | (refine wpC_val (v := ?_) (fun _ => trivial) rfl (by rfl) ?_ ?_; rotate_left; (· (go_simp; try with_reducible rfl)); simp only [Act.put, List.setIfInBounds_toArray, List.set_cons_zero, List.set_cons_succ]) | (refine wpC_skip rfl (by rfl) ?_; simp only [Act.put, List.setIfInBounds_toArray, List.set_cons_zero, List.set_cons_succ]) | (refine wpC_skip' (fun _ => trivial) rfl (by rfl) ?_; simp only [Act.put, List.setIfInBounds_toArray, List.set_cons_zero, List.set_cons_succ]))
              refine wpC_store_fld rfl (by rfl) _ _ _ rfl g (i * 32) _ _ (B8 (overS x y)) rfl _ rfl rfl bk2 (by rw [B8_len, overS_len]; exact HLEN.out) (info_hash (overS_len x y)) (B8_one _) (fun _ _ => trivial) ?_
              intro w3 bk3 bu3
              rw [HP.out] at bk3
              have bz3 := bz2.but bu3 (by simp; omega)
              have bp3 := bp2.but bu3 (by simp; omega)
              have f3 := f2.trans (below_but bu3 (by omega) f2.size)
              clear bk bz bp hf hb2 bk2 bz2 bp2 f2 bu3 k1 k2 k3 k4 k5 k6 k7 k8 k9
              simp only [Act.put, List.setIfInBounds_toArray, List.set_cons_zero, List.set_cons_succ]
              refine wpC_nil ?_
              go_wp2_with fail
              go_roundw
              case rel => exact ⟨i + 1, by go_num, by omega, bk3, bz3, bp3, f3⟩
              case measure => simp [intOf]; omega
            · refine wpC_load_f (fun _ => trivial) rfl (by rfl) _ _ rfl g ((2 * i + 1) * 32) rfl (B8 y) _ ry Try.underlying27 rfl (info_hash YL.out) ?_
              simp only [Act.put, List.setIfInBounds_toArray, List.set_cons_zero, List.set_cons_succ]
              refine wpC_load_f (fun _ => trivial) rfl (by rfl) _ _ rfl g (2 * i * 32) rfl (B8 x) _ rx Try.underlying27 rfl (info_hash XL.out) ?_
              simp only [Act.put, List.setIfInBounds_toArray, List.set_cons_zero, List.set_cons_succ]
              clear rx ry
              (refine wpC_loud rfl (by rfl) ?_; intro K hK; go_simp)
              refine (refOver_any x y XL.out YL.out _).mono ?_
              rintro e w2 ⟨rfl, hb2⟩
              (refine hK.out _ _ (trivial) ?_; clear hK K; try simp only [Act.put, List.setIfInBounds_toArray, List.set_cons_zero, List.set_cons_succ])
              unfold hv
              have bk2 := Blk.to (w := wr.drew) bk hb2
              have bz2 := Blk.to (w := wr.drew) bz hb2
              have bp2 := Blk.to (w := wr.drew) bp hb2
              have f2 := hf.drew.trans (hb2.mono hf.drew.size)
              repeat (first | (refine wpC_quiet (v := ?_) rfl (by rfl) ?_ ?_; rotate_left; (· (intro w' hw'; go_simp; try with_reducible rfl)); simp only [Act.put, List.setIfInBounds_toArray, List.set_cons_zero, List.set_cons_succ]) | (refine wpC_val (v := ?_) (fun _ => trivial) rfl (by rfl) ?_ ?_; rotate_left; (· (go_simp; try with_reducible rfl)); simp only [Act.put, List.setIfInBounds_toArray, List.set_cons_zero, List.set_cons_succ]) | (refine wpC_skip rfl (by rfl) ?_; simp only [Act.put, List.setIfInBounds_toArray, List.set_cons_zero, List.set_cons_succ]) | (refine wpC_skip' (fun _ => trivial) rfl (by rfl) ?_; simp only [Act.put, List.setIfInBounds_toArray, List.set_cons_zero, List.set_cons_succ]))
              refine wpC_store_fld rfl (by rfl) _ _ _ rfl g (i * 32) _ _ (B8 (overS x y)) rfl _ rfl rfl bk2 (by rw [B8_len, overS_len]; exact HLEN.out) (info_hash (overS_len x y)) (B8_one _) (fun _ _ => trivial) ?_
              intro w3 bk3 bu3
              rw [HP.out] at bk3
              have bz3 := bz2.but bu3 (by simp; omega)
              have bp3 := bp2.but bu3 (by simp; omega)
              have f3 := f2.trans (below_but bu3 (by omega) f2.size)
              clear bk bz bp hf hb2 bk2 bz2 bp2 f2 bu3 k1 k2 k3 k4 k5 k6 k7 k8 k9
              simp only [Act.put, List.setIfInBounds_toArray, List.set_cons_zero, List.set_cons_succ]
              refine wpC_nil ?_
              go_wp2_with fail
              go_roundw
              case rel => exact ⟨i + 1, by go_num, by omega, bk3, bz3, bp3, f3⟩
              case measure => simp [intOf]; omega

          · obtain rfl : M = i := by omega
            have hpe := part_end cur
            rw [HH.out] at hpe
            rw [hpe, H8_app, List.append_assoc] at bk
            have hhl := halve_len cur
            rw [HH.out] at hhl
            have HHL := Lib.hid hhl
            have HLV : Hid (lev (q + 1) L = halve cur) := (show halve (lev q L) = _ by rw [HCU.out])
            have hmm : ((m : Int)) / 2 = ((k0 / 2 ^ (q + 1) : Nat) : Int) := by
              rw [HMQ.out, Nat.pow_succ, ← Nat.div_div_eq_div_mul]
              rfl
            have HMM := Lib.hid hmm
            clear hpe hhl hmm
            go_wp2_with fail
            go_roundw
            case rel => exact ⟨q + 1, M, halve cur, _, by rw [← HMM.out], by go_num, by omega, HM, rfl, by omega, HHL, halve_all cur, HLV, bk, bz, bp, hf⟩
            case measure => simp [intOf]; omega
      · obtain rfl : q = 8 := by omega
        have t1 : ¬ (8 : Int) < 8 := by omega
        rw [halfP_end] at bp
        have IPP := Lib.hid (info_rpath (proveJ_len 8 L k0) (proveJ_all HLA.out 8 k0))
        have HLN2 : Hid ((H8 (proveJ 8 L k0)).length = 256) := (by show _ = _; rw [H8_len _ (proveJ_all HLA.out 8 k0), proveJ_len])
        obtain ⟨pp, hpp⟩ : ∃ pp, proveJ 8 L k0 = pp := ⟨_, rfl⟩
        rw [hpp] at bp IPP HLN2 HP
        clear hpp hm
        go_wp2_with (first
          | (refine wpl_load_fld (by rfl) _ _ rfl W.heap.size 0 rfl (H8 pp) _ bp.range Try.underlying43 rfl IPP.out ?_)
          | (refine wpl_store_fld (by rfl) _ _ _ rfl w.heap.size 0 _ _ (H8 pp) rfl _ rfl rfl bz (by rw [HLN2.out]; decide) IPP.out (H8_one _) ?_
             intro w3 bz3 bu3
             rw [put_all _ _ (by rw [HLN2.out]; rfl)] at bz3))
        exact bodyPost_ret (v := pv pp) (results_blk Try.results25 rfl bz3 Try.underlying43 rfl IPP.out) rfl ⟨by rw [HP.out], hf.trans (below_but bu3 (Nat.le_refl _) hf.size)⟩
  · have HP : Hid (proveS s i = path0) := (show _ = _ by unfold proveS; rw [if_neg hin])
    have hc : i < 0 ∨ ¬ i < 0 ∧ ¬ i < 256 := by omega
    clear hin
    go_enter Try.func25, Try.ntmps25
    go_upto_region 1 with fail
    refine wp_at HW.out ?_
    clear HW
    rcases hc with h1 | ⟨h1, h2⟩
    all_goals
      go_wp2_with (first
        | (refine wpl_build (by rfl) _ _ rfl _ built_rpath ?_)
        | (refine wpl_store_new rfl _ _ _ rfl 43 _ (H8 path0) rfl rfl (by rw [HLN0.out]; kernel_rfl) IP0.out (H8_one _) ?_
           intro W1 bp hb1
           simp only [Act.put, List.setIfInBounds_toArray, List.set_cons_zero, List.set_cons_succ]
           have bz1 := bz.to hb1
           have f1 := hbw.trans (hb1.mono hbw.size))
        | (refine wpl_load_fld (by rfl) _ _ rfl W.heap.size 0 rfl (H8 path0) _ bp.range Try.underlying43 rfl IP0.out ?_)
        | (refine wpl_store_fld (by rfl) _ _ _ rfl w.heap.size 0 _ _ (H8 path0) rfl _ rfl rfl bz1 (by rw [HLN0.out]; decide) IP0.out (H8_one _) ?_
           intro w3 bz3 bu3
           rw [put_all _ _ rfl] at bz3))
      exact bodyPost_ret (v := pv path0) (results_blk Try.results25 rfl bz3 Try.underlying43 rfl IP0.out) rfl ⟨by rw [HP.out], f1.trans (below_but bu3 (Nat.le_refl _) f1.size)⟩
end Go.Proofs.Ytakebmpnbdlcoaa
