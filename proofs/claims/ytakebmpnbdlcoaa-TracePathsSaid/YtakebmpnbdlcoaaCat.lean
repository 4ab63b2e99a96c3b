/- Walks: slices.Grow from nothing, slices.Concat at bytes. -/
import Derived.Test.YtakebmpnbdlcoaaClone
import Derived.Lib.AppendZeros
set_option linter.unusedSimpArgs false
set_option linter.unusedVariables false
namespace Go.Proofs.Ytakebmpnbdlcoaa
open Go.RowKit
set_option maxRecDepth 100000

theorem info_u8 : (Try.prog.info? 5).map (fun i => (i.zero, i.size, i.bytes)) = some (some (.int .u8 0), 1, 1) := by kernel_rfl

theorem grow_B (n : Nat) (w : World) (hn : n ≤ 140737488355328) :
    Calls Try.prog 69 #[.slice none 0 0, .int .i64 n] w (RSl w 5 1 []) := by
  obtain ⟨i0, hi0, hz0, hz1, hz2⟩ := info_parts info_u8
  have hb : n * i0.bytes ≤ 281474976710656 := by rw [hz2]; omega
  have hs : 0 < i0.size := by rw [hz1]; decide
  by_cases h0 : n = 0
  · subst h0
    clear hb hs
    go_enter Try.func69, Try.ntmps69
    go_wp2
    go_ret
    exact RSl.mk Own.nil_ (Below.refl _ _)
  · have t1 : (0 : Int) < n := by omega
    have t2 : ¬ (n : Int) < 0 := by omega
    have hcap := grownCap_ge w n 0 5
    have hcap2 := grownCap_le_maxLen w n 0 5 (by simp only [maxLen]; omega)
    have HI := Lib.hid hi0
    have HZ := Lib.hid hz0
    have HZ1 := Lib.hid hz1
    clear hi0 hz0 hz1 hz2
    go_enter Try.func69, Try.ntmps69
    go_wp2_with (first
      | (at_builtin
         refine Lib.wpList_append_run _ rfl _ _ _ _ rfl _ _ rfl rfl _ _ (Lib.run_append_nil_zeros w _ _ _ _ i0 _ _ _ Try.underlying67 Try.underlying3 HI.out HZ.out n (by omega) hs (by omega) hb) ?_))
    go_ret
    refine RSl.mk (Own.drew (World.ownsRow_made w _ _ (Nat.le_refl _) hcap2 (by simp [size_zeroCells]; omega))) ?_
    exact ((Below.refl _ _).alloc (Nat.le_refl _) _).drew

/-- the bytes of some slices, one behind the other -/
def flat (L : List (Option Addr × Nat × Nat × List UInt8)) : List UInt8 := L.flatMap (·.2.2.2)
theorem flat_snoc (L : List (Option Addr × Nat × Nat × List UInt8)) (k : Nat) (h : k < L.length) : flat (L.take (k + 1)) = flat (L.take k) ++ L[k].2.2.2 := by
  unfold flat
  rw [List.take_succ_eq_append_getElem h, List.flatMap_append]
  simp only [List.flatMap_cons, List.flatMap_nil, List.append_nil]
theorem flat_le (L : List (Option Addr × Nat × Nat × List UInt8)) (k : Nat) : (flat (L.take k)).length ≤ (flat L).length := by
  unfold flat
  conv => rhs; rw [← List.take_append_drop k L, List.flatMap_append, List.length_append]
  omega
set_option maxHeartbeats 400000 in
theorem concat_B (L : List (Option Addr × Nat × Nat × List UInt8)) (b : Nat) (w : World) (hc : ∀ (k : Nat) (x : Option Addr × Nat × Nat × List UInt8), L[k]? = some x → w.cell? ⟨b, k, none⟩ = some (.slice x.1 x.2.1 x.2.2.1) ∧ Sl w 1 x.1 x.2.1 (B8 x.2.2.2))
    (hL : 0 < L.length) (hl : L.length ≤ 1000000) (ht : (flat L).length ≤ 1099511627776) :
    Calls Try.prog 65 #[.slice (some ⟨b, 0, none⟩) L.length L.length] w (RSl w 5 1 (B8 (flat L))) := by
  have hbw : b < w.heap.size := World.block_lt_of_cell? w ⟨b, 0, none⟩ (hc 0 _ (List.getElem?_eq_getElem hL)).1
  have HC := Lib.hid hc
  clear hc
  go_enter Try.func65, Try.ntmps65
  go_wp2_with fail
  go_loop [3, 11] (fun s i => ∃ k : Nat, k ≤ L.length ∧ i = .int .i64 k ∧ s = .int .i64 (flat (L.take k)).length) (fun _ i => L.length - (intOf i).toNat)
  case atStart => exact ⟨0, Nat.zero_le _, rfl, rfl⟩
  case round =>
    obtain ⟨k, hk, rfl, rfl⟩ := hrel
    by_cases hlt : k < L.length
    · have t1 : (k : Int) < L.length := by omega
      obtain ⟨hcell, hsl⟩ := HC.out k _ (List.getElem?_eq_getElem hlt)
      have hsn := flat_snoc L k hlt
      have hfl := flat_le L (k + 1)
      have hl8 := hsl.len8
      have hfl2 : (flat (L.take k)).length + L[k].2.1 ≤ 1099511627776 := by rw [hsn, List.length_append, ← hl8] at hfl; omega
      have HN : Hid (((flat (L.take (k + 1))).length : Int) = ((flat (L.take k)).length : Int) + (L[k].2.1 : Int)) := by show _ = _; rw [hsn, List.length_append, ← hl8]; omega
      generalize L[k].2.1 = m at *
      generalize L[k].1 = A at *
      generalize L[k].2.2.1 = c at *
      generalize (flat (L.take k)).length = q at *
      have t2 : ¬ (q : Int) + (m : Int) < 0 := by omega
      clear hsn hfl hl8 hsl
      go_wp2
      go_round
      case rel => exact ⟨k + 1, by omega, by go_num, by rw [HN.out]⟩
      case measure => simp [intOf]; omega
    · have hkl : k = L.length := by omega
      have t1 : ¬ (k : Int) < L.length := by omega
      have e0 : (flat (L.take k)).length = (flat L).length := by rw [List.take_of_length_le (by omega)]
      rw [e0]
      clear e0 hkl
      go_wp2_with fail
      refine (grow_B _ w (by omega)).mono ?_
      rintro e w1 ⟨A1, n1, c1, rfl, ho1, hb1⟩
      obtain rfl : n1 = 0 := by have := ho1.len; simp at this; omega
      go_wp2_with fail
      go_loopw [6, 27] (fun s i wr => ∃ (A' : Option Addr) (n' c' : Nat) (k : Nat), k ≤ L.length ∧ i = .int .i64 k ∧ s = .slice A' n' c' ∧ Own wr w.heap.size 5 1 A' n' c' (B8 (flat (L.take k))) ∧ Below w.heap.size w wr) (fun _ i _ => L.length - (intOf i).toNat)
      case atStart => exact ⟨A1, 0, c1, 0, Nat.zero_le _, rfl, rfl, ho1, hb1⟩
      case round =>
        obtain ⟨A', n', c', j, hj, rfl, rfl, ho, hb⟩ := hrel
        have hsz := hb.size
        by_cases hlt : j < L.length
        · have t1 : (j : Int) < L.length := by omega
          obtain ⟨hcell0, hsl0⟩ := HC.out j _ (List.getElem?_eq_getElem hlt)
          have hsl := hsl0.to hb
          have hcell := (hb.cell (p := ⟨b, j, none⟩) hbw).trans hcell0
          have hsn := flat_snoc L j hlt
          have hfl := flat_le L (j + 1)
          have hl8 := hsl.len8
          have hn8 := ho.len8
          have hfl2 : n' + L[j].2.1 ≤ 1099511627776 := by rw [hsn, List.length_append, ← hl8, ← hn8] at hfl; omega
          have HN := Lib.hid hsn
          generalize L[j].2.1 = m at *
          generalize L[j].1 = A at *
          generalize L[j].2.2.1 = c at *
          clear hsn hfl hl8 hn8 hcell0 hsl0
          go_wp2_with (first
            | (at_builtin
               refine wpl_app _ _ _ _ elB rfl rfl rfl ho rfl hsl (B8_one _) (by omega) (by omega) hsz ?_
               intro A2 c2 w2 g))
          have ho2 := g.own
          rw [← B8_app, ← HN.out] at ho2
          have hb2 := hb.trans (g.below ho hsz)
          go_roundw
          case rel => exact ⟨A2, _, c2, j + 1, by omega, by go_num, rfl, ho2, hb2⟩
          case measure => simp [intOf]; omega
        · have t1 : ¬ (j : Int) < L.length := by omega
          go_wp2
          go_ret
          rw [List.take_of_length_le (by omega)] at ho
          exact RSl.mk ho hb

/-- two slices -/
theorem concat2_B (A1 A2 : Option Addr) (n1 n2 c1 c2 : Nat) (b1 b2 : List UInt8) (t : TypeId) (fr : Nat × Nat) (w : World) (h1 : Sl w 1 A1 n1 (B8 b1)) (h2 : Sl w 1 A2 n2 (B8 b2)) (hl : n1 + n2 ≤ 1099511627776) (N : Nat) (hN : N = w.heap.size) :
    Calls Try.prog 65 #[.slice (some ⟨N, 0, none⟩) 2 2] (w.alloc (.cells #[.slice A1 n1 c1, .slice A2 n2 c2] t fr)) fun e w' =>
      ∃ A n c, e = .returned (.slice A n c) ∧ Own w' w.heap.size 5 1 A n c (B8 (b1 ++ b2)) ∧ Below w.heap.size w w' := by
  subst hN
  have e1 := h1.len8
  have e2 := h2.len8
  refine (concat_B [(A1, n1, c1, b1), (A2, n2, c2, b2)] w.heap.size _ ?_ (by simp) (by simp) (by simp [flat]; omega)).mono ?_
  · intro k x hx
    match k, hx with
    | 0, hx =>
      simp only [List.getElem?_cons_zero, Option.some.injEq] at hx
      subst hx
      exact ⟨by rw [cell_of_row _ w.heap.size 0 _ t fr (heap_alloc_new w _)]; rfl, h1.alloc _⟩
    | 1, hx =>
      simp only [List.getElem?_cons_succ, List.getElem?_cons_zero, Option.some.injEq] at hx
      subst hx
      exact ⟨by rw [cell_of_row _ w.heap.size 1 _ t fr (heap_alloc_new w _)]; rfl, h2.alloc _⟩
    | k + 2, hx => simp at hx
  · rintro e w' ⟨A, n, c, rfl, ho, hb⟩
    refine ⟨A, n, c, rfl, (by simpa [flat] using ho.mono (B' := w.heap.size) (by simp)), ?_⟩
    exact ((Below.refl _ _).alloc (Nat.le_refl _) _).trans (hb.mono (by simp))

end Go.Proofs.Ytakebmpnbdlcoaa
