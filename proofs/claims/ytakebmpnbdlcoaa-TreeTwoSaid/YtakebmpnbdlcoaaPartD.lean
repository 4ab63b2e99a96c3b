/- The texts of this claim, part D: words, plain laws, walks. -/
import Derived.Test.YtakebmpnbdlcoaaPartA
import Derived.Lib.AppendZeros
import Derived.Test.YtakebmpnbdlcoaaProg
import Derived.Deep.Cut
import Derived.Test.YtakebmpnbdlcoaaPartB
import Derived.Lib.SlBytesConst
import Derived.Test.YtakebmpnbdlcoaaPartC
import Derived.Laws.StructEq
import Derived.Laws.Tables
import Derived.IntWalk
/- Walks: slices.Grow from nothing, slices.Concat at bytes. -/
set_option linter.unusedSimpArgs false
set_option linter.unusedVariables false
namespace Go.Proofs.Ytakebmpnbdlcoaa
open Go.RowKit
set_option maxRecDepth 100000

theorem info_u8 : (Try.prog.info? 5).map (fun i => (i.zero, i.size, i.bytes)) = some (some (.int .u8 0), 1, 1) := by kernel_rfl

theorem grow_B (n : Nat) (w : World) (hn : n ≤ 140737488355328) :
    Calls Try.prog 69 #[.slice none 0 0, .int .i64 n] w (RSl w 5 1 []) := by
  obtain ⟨i0, hi0, hz0, hz1, hz2⟩ := info_parts info_u8
  have hb : n * i0.bytes ≤ 281474976710656 := by rw [hz2]; omega
  have hs : 0 < i0.size := by rw [hz1]; decide
  by_cases h0 : n = 0
  · subst h0
    clear hb hs
    go_enter Try.func69, Try.ntmps69
    go_wp2
    go_ret
    exact RSl.mk Own.nil_ (Below.refl _ _)
  · have t1 : (0 : Int) < n := by omega
    have t2 : ¬ (n : Int) < 0 := by omega
    have hcap := grownCap_ge w n 0 5
    have hcap2 := grownCap_le_maxLen w n 0 5 (by simp only [maxLen]; omega)
    have HI := Lib.hid hi0
    have HZ := Lib.hid hz0
    have HZ1 := Lib.hid hz1
    clear hi0 hz0 hz1 hz2
    go_enter Try.func69, Try.ntmps69
    go_wp2_with (first
      | (at_builtin
         refine Lib.wpList_append_run _ rfl _ _ _ _ rfl _ _ rfl rfl _ _ (Lib.run_append_nil_zeros w _ _ _ _ i0 _ _ _ Try.underlying67 Try.underlying3 HI.out HZ.out n (by omega) hs (by omega) hb) ?_))
    go_ret
    refine RSl.mk (Own.drew (World.ownsRow_made w _ _ (Nat.le_refl _) hcap2 (by simp [size_zeroCells]; omega))) ?_
    exact ((Below.refl _ _).alloc (Nat.le_refl _) _).drew

/-- the bytes of some slices, one behind the other -/
def flat (L : List (Option Addr × Nat × Nat × List UInt8)) : List UInt8 := L.flatMap (·.2.2.2)
theorem flat_snoc (L : List (Option Addr × Nat × Nat × List UInt8)) (k : Nat) (h : k < L.length) : flat (L.take (k + 1)) = flat (L.take k) ++ L[k].2.2.2 := by
  unfold flat
  rw [List.take_succ_eq_append_getElem h, List.flatMap_append]
  simp only [List.flatMap_cons, List.flatMap_nil, List.append_nil]
theorem flat_le (L : List (Option Addr × Nat × Nat × List UInt8)) (k : Nat) : (flat (L.take k)).length ≤ (flat L).length := by
  unfold flat
  conv => rhs; rw [← List.take_append_drop k L, List.flatMap_append, List.length_append]
  omega
set_option maxHeartbeats 400000 in
theorem concat_B (L : List (Option Addr × Nat × Nat × List UInt8)) (b : Nat) (w : World) (hc : ∀ (k : Nat) (x : Option Addr × Nat × Nat × List UInt8), L[k]? = some x → w.cell? ⟨b, k, none⟩ = some (.slice x.1 x.2.1 x.2.2.1) ∧ Sl w 1 x.1 x.2.1 (B8 x.2.2.2))
    (hL : 0 < L.length) (hl : L.length ≤ 1000000) (ht : (flat L).length ≤ 1099511627776) :
    Calls Try.prog 65 #[.slice (some ⟨b, 0, none⟩) L.length L.length] w (RSl w 5 1 (B8 (flat L))) := by
  have hbw : b < w.heap.size := World.block_lt_of_cell? w ⟨b, 0, none⟩ (hc 0 _ (List.getElem?_eq_getElem hL)).1
  have HC := Lib.hid hc
  clear hc
  go_enter Try.func65, Try.ntmps65
  go_wp2_with fail
  go_loop [3, 11] (fun s i => ∃ k : Nat, k ≤ L.length ∧ i = .int .i64 k ∧ s = .int .i64 (flat (L.take k)).length) (fun _ i => L.length - (intOf i).toNat)
  case atStart => exact ⟨0, Nat.zero_le _, rfl, rfl⟩
  case round =>
    obtain ⟨k, hk, rfl, rfl⟩ := hrel
    by_cases hlt : k < L.length
    · have t1 : (k : Int) < L.length := by omega
      obtain ⟨hcell, hsl⟩ := HC.out k _ (List.getElem?_eq_getElem hlt)
      have hsn := flat_snoc L k hlt
      have hfl := flat_le L (k + 1)
      have hl8 := hsl.len8
      have hfl2 : (flat (L.take k)).length + L[k].2.1 ≤ 1099511627776 := by rw [hsn, List.length_append, ← hl8] at hfl; omega
      have HN : Hid (((flat (L.take (k + 1))).length : Int) = ((flat (L.take k)).length : Int) + (L[k].2.1 : Int)) := by show _ = _; rw [hsn, List.length_append, ← hl8]; omega
      generalize L[k].2.1 = m at *
      generalize L[k].1 = A at *
      generalize L[k].2.2.1 = c at *
      generalize (flat (L.take k)).length = q at *
      have t2 : ¬ (q : Int) + (m : Int) < 0 := by omega
      clear hsn hfl hl8 hsl
      go_wp2
      go_round
      case rel => exact ⟨k + 1, by omega, by go_num, by rw [HN.out]⟩
      case measure => simp [intOf]; omega
    · have hkl : k = L.length := by omega
      have t1 : ¬ (k : Int) < L.length := by omega
      have e0 : (flat (L.take k)).length = (flat L).length := by rw [List.take_of_length_le (by omega)]
      rw [e0]
      clear e0 hkl
      go_wp2_with fail
      refine (grow_B _ w (by omega)).mono ?_
      rintro e w1 ⟨A1, n1, c1, rfl, ho1, hb1⟩
      obtain rfl : n1 = 0 := by have := ho1.len; simp at this; omega
      go_wp2_with fail
      go_loopw [6, 27] (fun s i wr => ∃ (A' : Option Addr) (n' c' : Nat) (k : Nat), k ≤ L.length ∧ i = .int .i64 k ∧ s = .slice A' n' c' ∧ Own wr w.heap.size 5 1 A' n' c' (B8 (flat (L.take k))) ∧ Below w.heap.size w wr) (fun _ i _ => L.length - (intOf i).toNat)
      case atStart => exact ⟨A1, 0, c1, 0, Nat.zero_le _, rfl, rfl, ho1, hb1⟩
      case round =>
        obtain ⟨A', n', c', j, hj, rfl, rfl, ho, hb⟩ := hrel
        have hsz := hb.size
        by_cases hlt : j < L.length
        · have t1 : (j : Int) < L.length := by omega
          obtain ⟨hcell0, hsl0⟩ := HC.out j _ (List.getElem?_eq_getElem hlt)
          have hsl := hsl0.to hb
          have hcell := (hb.cell (p := ⟨b, j, none⟩) hbw).trans hcell0
          have hsn := flat_snoc L j hlt
          have hfl := flat_le L (j + 1)
          have hl8 := hsl.len8
          have hn8 := ho.len8
          have hfl2 : n' + L[j].2.1 ≤ 1099511627776 := by rw [hsn, List.length_append, ← hl8, ← hn8] at hfl; omega
          have HN := Lib.hid hsn
          generalize L[j].2.1 = m at *
          generalize L[j].1 = A at *
          generalize L[j].2.2.1 = c at *
          clear hsn hfl hl8 hn8 hcell0 hsl0
          go_wp2_with (first
            | (at_builtin
               refine wpl_app _ _ _ _ elB rfl rfl rfl ho rfl hsl (B8_one _) (by omega) (by omega) hsz ?_
               intro A2 c2 w2 g))
          have ho2 := g.own
          rw [← B8_app, ← HN.out] at ho2
          have hb2 := hb.trans (g.below ho hsz)
          go_roundw
          case rel => exact ⟨A2, _, c2, j + 1, by omega, by go_num, rfl, ho2, hb2⟩
          case measure => simp [intOf]; omega
        · have t1 : ¬ (j : Int) < L.length := by omega
          go_wp2
          go_ret
          rw [List.take_of_length_le (by omega)] at ho
          exact RSl.mk ho hb

/-- two slices -/
theorem concat2_B (A1 A2 : Option Addr) (n1 n2 c1 c2 : Nat) (b1 b2 : List UInt8) (t : TypeId) (fr : Nat × Nat) (w : World) (h1 : Sl w 1 A1 n1 (B8 b1)) (h2 : Sl w 1 A2 n2 (B8 b2)) (hl : n1 + n2 ≤ 1099511627776) (N : Nat) (hN : N = w.heap.size) :
    Calls Try.prog 65 #[.slice (some ⟨N, 0, none⟩) 2 2] (w.alloc (.cells #[.slice A1 n1 c1, .slice A2 n2 c2] t fr)) fun e w' =>
      ∃ A n c, e = .returned (.slice A n c) ∧ Own w' w.heap.size 5 1 A n c (B8 (b1 ++ b2)) ∧ Below w.heap.size w w' := by
  subst hN
  have e1 := h1.len8
  have e2 := h2.len8
  refine (concat_B [(A1, n1, c1, b1), (A2, n2, c2, b2)] w.heap.size _ ?_ (by simp) (by simp) (by simp [flat]; omega)).mono ?_
  · intro k x hx
    match k, hx with
    | 0, hx =>
      simp only [List.getElem?_cons_zero, Option.some.injEq] at hx
      subst hx
      exact ⟨by rw [cell_of_row _ w.heap.size 0 _ t fr (heap_alloc_new w _)]; rfl, h1.alloc _⟩
    | 1, hx =>
      simp only [List.getElem?_cons_succ, List.getElem?_cons_zero, Option.some.injEq] at hx
      subst hx
      exact ⟨by rw [cell_of_row _ w.heap.size 1 _ t fr (heap_alloc_new w _)]; rfl, h2.alloc _⟩
    | k + 2, hx => simp at hx
  · rintro e w' ⟨A, n, c, rfl, ho, hb⟩
    refine ⟨A, n, c, rfl, (by simpa [flat] using ho.mono (B' := w.heap.size) (by simp)), ?_⟩
    exact ((Below.refl _ _).alloc (Nat.le_refl _) _).trans (hb.mono (by simp))

end Go.Proofs.Ytakebmpnbdlcoaa
/- Sums held against each other. -/
set_option linter.unusedSimpArgs false
set_option linter.unusedVariables false
namespace Go.Proofs.Ytakebmpnbdlcoaa
open Go.RowKit
set_option maxRecDepth 100000
def zero32 : List UInt8 := List.replicate 32 0
theorem zero32_one : ∀ u ∈ B8 zero32, u.oneCell' = true := B8_one _
theorem info_hash {l : List UInt8} (h : l.length = 32) : (Try.prog.info? 27).map (·.size) = some (B8 l).length := by rw [B8_len, h]; kernel_rfl
theorem info_u8' : ∃ i, Try.prog.info? 5 = some i := by
  obtain ⟨i, h, _⟩ := info_parts (P := Try.prog) (e := 5) (z := .int .u8 0) (size := 1) (bytes := 1) (by kernel_rfl)
  exact ⟨i, h⟩
theorem eq_hash (a b : List UInt8) (ha : a.length = 32) (hb : b.length = 32) (w : World) : (Op.equalIn 10000 27 (.agg (B8 a).toArray) (.agg (B8 b).toArray)).run Try.prog w = .ok (decide (a = b)) w := by
  obtain ⟨i, hi⟩ := info_u8'
  exact eq_bytes Try.underlying27 Try.underlying5 hi (by kernel_rfl) 9998 a b ha hb w
theorem eq_zero (a : List UInt8) (ha : a.length = 32) (w : World) : (Op.equalIn 10000 27 (.agg (B8 a).toArray) (.agg #[.int .u8 0, .int .u8 0, .int .u8 0, .int .u8 0, .int .u8 0, .int .u8 0, .int .u8 0, .int .u8 0, .int .u8 0, .int .u8 0, .int .u8 0, .int .u8 0, .int .u8 0, .int .u8 0, .int .u8 0, .int .u8 0, .int .u8 0, .int .u8 0, .int .u8 0, .int .u8 0, .int .u8 0, .int .u8 0, .int .u8 0, .int .u8 0, .int .u8 0, .int .u8 0, .int .u8 0, .int .u8 0, .int .u8 0, .int .u8 0, .int .u8 0, .int .u8 0])).run Try.prog w = .ok (decide (a = zero32)) w := eq_hash a zero32 ha rfl w
end Go.Proofs.Ytakebmpnbdlcoaa
/- Walks: sha.Hex, capstanref2.Hex. -/
set_option linter.unusedSimpArgs false
set_option linter.unusedVariables false
namespace Go.Proofs.Ytakebmpnbdlcoaa
open Go.RowKit
set_option maxRecDepth 100000
theorem run_index_b {P : Program} {t e : TypeId} {n : Nat} {i0 : TypeInfo} (ht : P.underlying t = some (.array n e)) (he : P.underlying e = some (.int .u8)) (hi : P.info? e = some i0) (hs : i0.size = 1) (l : List UInt8) (k : Nat) (hk : k < n) (y : UInt8) (hy : l[k]? = some y) (w : World) :
    (Instr.index t (.agg (B8 l).toArray) (.int .i64 (k : Int))).run P w = .ok (.int .u8 (y.toNat : Int)) w := by
  have hp : P.plainKey e = true := by unfold Program.plainKey; rw [he]
  have pa := run_part_plain (P := P) w hp (xs := (B8 l).toArray) (off := k) (v := .int .u8 (y.toNat : Int)) (by simp [B8, b8, hy])
  have hlt : (0 : Int) ≤ (k : Int) ∧ (k : Int) < (n : Int) := by omega
  simp [Instr.index, run_underlying ht, asIntOf, sizeOf, typeInfo, hi, hs, hk, pa]
theorem dig_at (d : Nat) (h : d < 16) : ((⟨#[48, 49, 50, 51, 52, 53, 54, 55, 56, 57, 97, 98, 99, 100, 101, 102]⟩ : ByteArray)[d]'h) = dig d := by
  match d, h with
  | 0, _ => rfl
  | 1, _ => rfl
  | 2, _ => rfl
  | 3, _ => rfl
  | 4, _ => rfl
  | 5, _ => rfl
  | 6, _ => rfl
  | 7, _ => rfl
  | 8, _ => rfl
  | 9, _ => rfl
  | 10, _ => rfl
  | 11, _ => rfl
  | 12, _ => rfl
  | 13, _ => rfl
  | 14, _ => rfl
  | 15, _ => rfl
  | n + 16, h => exact absurd h (by omega)
theorem digit_at {P : Program} {t : TypeId} (ht : P.underlying t = some .string) (d : Nat) (h : d < 16) (w : World) :
    (Instr.index t (.string ⟨#[48, 49, 50, 51, 52, 53, 54, 55, 56, 57, 97, 98, 99, 100, 101, 102]⟩) (.int .u8 (d : Int))).run P w = .ok (.int .u8 ((dig d).toNat : Int)) w := by
  rw [run_index_string w t _ .u8 (d : Int) ht, dif_pos ⟨by omega, by show (d : Int) < 16; omega⟩]
  simp only [Int.toNat_natCast]
  rw [dig_at d h]
theorem hexS_snoc (h : List UInt8) (k : Nat) (y : UInt8) (hy : h[k]? = some y) : hexS (h.take (k + 1)) = hexS (h.take k) ++ [dig (y.toNat / 16), dig (y.toNat % 16)] := by
  rw [List.take_add_one, hy, hexS, List.flatMap_append]
  rfl
end Go.Proofs.Ytakebmpnbdlcoaa
/- Plain law: the sum of "abc". -/
set_option linter.unusedSimpArgs false
set_option linter.unusedVariables false
namespace Go.Proofs.Ytakebmpnbdlcoaa
theorem sha_abc : (hexS (shaS [97, 98, 99])).take 8 = [98, 97, 55, 56, 49, 54, 98, 102] := by decide +kernel
theorem hexS_len (h : List UInt8) : (hexS h).length = 2 * h.length := by
  induction h with
  | nil => rfl
  | cons a l ih => rw [hexS, List.flatMap_cons, List.length_append]; rw [hexS] at ih; rw [ih]; simp; omega
end Go.Proofs.Ytakebmpnbdlcoaa
/- Walks: sha.Two, capstanlaw2.known. -/
set_option linter.unusedSimpArgs false
set_option linter.unusedVariables false
namespace Go.Proofs.Ytakebmpnbdlcoaa
open Go.RowKit
set_option maxRecDepth 100000
/-- three slices -/
theorem concat3_B (A1 A2 A3 : Option Addr) (n1 n2 n3 c1 c2 c3 : Nat) (b1 b2 b3 : List UInt8) (t : TypeId) (fr : Nat × Nat) (w : World) (h1 : Sl w 1 A1 n1 (B8 b1)) (h2 : Sl w 1 A2 n2 (B8 b2)) (h3 : Sl w 1 A3 n3 (B8 b3)) (hl : n1 + n2 + n3 ≤ 1099511627776) (N : Nat) (hN : N = w.heap.size) :
    Calls Try.prog 65 #[.slice (some ⟨N, 0, none⟩) 3 3] (w.alloc (.cells #[.slice A1 n1 c1, .slice A2 n2 c2, .slice A3 n3 c3] t fr)) fun e w' =>
      ∃ A n c, e = .returned (.slice A n c) ∧ Own w' w.heap.size 5 1 A n c (B8 (b1 ++ b2 ++ b3)) ∧ Below (w.heap.size + 1) (w.alloc (.cells #[.slice A1 n1 c1, .slice A2 n2 c2, .slice A3 n3 c3] t fr)) w' := by
  subst hN
  have e1 := h1.len8
  have e2 := h2.len8
  have e3 := h3.len8
  refine (concat_B [(A1, n1, c1, b1), (A2, n2, c2, b2), (A3, n3, c3, b3)] w.heap.size _ ?_ (by simp) (by simp) (by simp [flat]; omega)).mono ?_
  · intro k x hx
    match k, hx with
    | 0, hx =>
      simp only [List.getElem?_cons_zero, Option.some.injEq] at hx
      subst hx
      exact ⟨by rw [cell_of_row _ w.heap.size 0 _ t fr (heap_alloc_new w _)]; rfl, h1.alloc _⟩
    | 1, hx =>
      simp only [List.getElem?_cons_succ, List.getElem?_cons_zero, Option.some.injEq] at hx
      subst hx
      exact ⟨by rw [cell_of_row _ w.heap.size 1 _ t fr (heap_alloc_new w _)]; rfl, h2.alloc _⟩
    | 2, hx =>
      simp only [List.getElem?_cons_succ, List.getElem?_cons_zero, Option.some.injEq] at hx
      subst hx
      exact ⟨by rw [cell_of_row _ w.heap.size 2 _ t fr (heap_alloc_new w _)]; rfl, h3.alloc _⟩
    | k + 3, hx => simp at hx
  · rintro e w' ⟨A, n, c, rfl, ho, hb⟩
    refine ⟨A, n, c, rfl, (by simpa [flat] using ho.mono (B' := w.heap.size) (by simp)), ?_⟩
    exact hb.mono (by simp)
set_option maxHeartbeats 1000000 in
theorem two_any (a b : List UInt8) (ha : a.length = 32) (hb : b.length = 32) (w : World) :
    Calls Try.prog 57 #[hv a, hv b] w fun e w' => e = .returned (hv (twoS a b)) ∧ Below w.heap.size w w' := by
  unfold hv
  obtain ⟨W, hW⟩ : ∃ W, W = ((w.alloc (.cells (B8 a).toArray 27)).alloc (.cells (B8 b).toArray 27)).alloc (.cells #[.int .u8 0, .int .u8 0, .int .u8 0, .int .u8 0, .int .u8 0, .int .u8 0, .int .u8 0, .int .u8 0, .int .u8 0, .int .u8 0, .int .u8 0, .int .u8 0, .int .u8 0, .int .u8 0, .int .u8 0, .int .u8 0, .int .u8 0, .int .u8 0, .int .u8 0, .int .u8 0, .int .u8 0, .int .u8 0, .int .u8 0, .int .u8 0, .int .u8 0, .int .u8 0, .int .u8 0, .int .u8 0, .int .u8 0, .int .u8 0, .int .u8 0, .int .u8 0] 27) := ⟨_, rfl⟩
  have hbw : Below w.heap.size w W := by
    subst hW
    exact (((Below.refl _ _).alloc (Nat.le_refl _) _).alloc (by simp) _).alloc (by simp; omega) _
  have ba : Blk W w.heap.size 27 (B8 a) := by
    subst hW
    exact (Blk.new w (B8 a).toArray 27).to (((Below.refl _ _).alloc (Nat.le_refl _) _).alloc (by simp) _)
  have bb : Blk W (w.heap.size + 1) 27 (B8 b) := by
    subst hW
    have := (Blk.new (w.alloc (.cells (B8 a).toArray 27)) (B8 b).toArray 27).to ((Below.refl _ _).alloc (Nat.le_refl _) (.cells #[.int .u8 0, .int .u8 0, .int .u8 0, .int .u8 0, .int .u8 0, .int .u8 0, .int .u8 0, .int .u8 0, .int .u8 0, .int .u8 0, .int .u8 0, .int .u8 0, .int .u8 0, .int .u8 0, .int .u8 0, .int .u8 0, .int .u8 0, .int .u8 0, .int .u8 0, .int .u8 0, .int .u8 0, .int .u8 0, .int .u8 0, .int .u8 0, .int .u8 0, .int .u8 0, .int .u8 0, .int .u8 0, .int .u8 0, .int .u8 0, .int .u8 0, .int .u8 0] 27))
    simpa using this
  have bz : Blk W (w.heap.size + 2) 27 (B8 (List.replicate 32 0)) := by
    subst hW
    have := Blk.new ((w.alloc (.cells (B8 a).toArray 27)).alloc (.cells (B8 b).toArray 27)) #[.int .u8 0, .int .u8 0, .int .u8 0, .int .u8 0, .int .u8 0, .int .u8 0, .int .u8 0, .int .u8 0, .int .u8 0, .int .u8 0, .int .u8 0, .int .u8 0, .int .u8 0, .int .u8 0, .int .u8 0, .int .u8 0, .int .u8 0, .int .u8 0, .int .u8 0, .int .u8 0, .int .u8 0, .int .u8 0, .int .u8 0, .int .u8 0, .int .u8 0, .int .u8 0, .int .u8 0, .int .u8 0, .int .u8 0, .int .u8 0, .int .u8 0, .int .u8 0] 27
    rw [show ((w.alloc (.cells (B8 a).toArray 27)).alloc (.cells (B8 b).toArray 27)).heap.size = w.heap.size + 2 from by simp] at this
    exact this
  have HW := Lib.hid hW
  have HA := Lib.hid ha
  have HB := Lib.hid hb
  clear hW ha hb
  go_enter Try.func57, Try.ntmps57
  go_upto_region 1 with fail
  refine wp_at HW.out ?_
  clear HW
  generalize hN : w.heap.size = N at *
  have HN := Lib.hid hN
  clear hN
  have hzl := bz.lt
  refine wp_region_C [(1, true), (2, true), (0, false), (3, false), (4, false), (5, false), (6, false)] (RBut (some (N + 2))) (by kernel_rfl) (by kernel_rfl) (by kernel_rfl) (by decide) (RBut.refl_ _) (RBut.trans_ _) (by intro d v c a w h; cases d <;> exact h) ?_
  have ba' : Blk W.drew N 27 (B8 a) := ba
  have bb' : Blk W.drew (N + 1) 27 (B8 b) := bb
  have bz' : Blk W.drew (N + 2) 27 (B8 (List.replicate 32 0)) := bz
  have hbw' : Below N w W.drew := hbw.drew
  clear ba bb bz hbw hzl
  generalize W.drew = V at *
  repeat (first | (refine wpC_quiet (v := ?_) rfl (by rfl) ?_ ?_; rotate_left; (· (intro w' hw'; go_simp; try with_reducible rfl)); simp only [Act.put, List.setIfInBounds_toArray, List.set_cons_zero, List.set_cons_succ]) | (refine wpC_val (v := ?_) (RBut.refl_ _) rfl (by rfl) ?_ ?_; rotate_left; (· (go_simp; try with_reducible rfl)); simp only [Act.put, List.setIfInBounds_toArray, List.set_cons_zero, List.set_cons_succ]) | (refine wpC_skip rfl (by rfl) ?_; simp only [Act.put, List.setIfInBounds_toArray, List.set_cons_zero, List.set_cons_succ]) | (refine wpC_skip' (RBut.refl_ _) rfl (by rfl) ?_; simp only [Act.put, List.setIfInBounds_toArray, List.set_cons_zero, List.set_cons_succ]))
  (refine wpC_loud rfl (by rfl) ?_; intro K hK; go_simp)
  have h0 : Below V.heap.size V (V.alloc (.cells #[.int .u8 1] 5)) := (Below.refl _ _).alloc (Nat.le_refl _) _
  (refine hK.out _ _ (RBut.of_below h0) ?_; clear hK K; try simp only [Act.put, List.setIfInBounds_toArray, List.set_cons_zero, List.set_cons_succ])
  have s1 : Sl (V.alloc (.cells #[.int .u8 1] 5)) 1 (some ⟨V.heap.size, 0, none⟩) 1 (B8 [1]) := Sl.new (size := 1) V #[.int .u8 1] 5 (0, 0) 1 rfl
  have s2 := ((ba'.to h0).sl (size := 1) (n := 32) (by rw [B8_len, HA.out]))
  have s3 := ((bb'.to h0).sl (size := 1) (n := 32) (by rw [B8_len, HB.out]))
  have hq : N + 2 < V.heap.size := bz'.lt
  have bz1 := bz'.to h0
  have hb1 := hbw'.trans (h0.mono (by omega))
  generalize hV1 : V.alloc (.cells #[.int .u8 1] 5) = V1 at *
  have hq1 : N + 2 < V1.heap.size := bz1.lt
  have HV1 := Lib.hid hV1
  clear hV1 h0 hbw' ba' bb' bz'
  (refine wpC_loud rfl (by rfl) ?_; intro K hK; go_simp)
  have h2 : Below V1.heap.size V1 (V1.alloc (.cells #[.slice (some ⟨V.heap.size, 0, none⟩) 1 1, .slice (some ⟨N, 0, none⟩) 32 32, .slice (some ⟨N + 1, 0, none⟩) 32 32] 67)) := (Below.refl _ _).alloc (Nat.le_refl _) _
  (refine hK.out _ _ (RBut.of_below h2) ?_; clear hK K; try simp only [Act.put, List.setIfInBounds_toArray, List.set_cons_zero, List.set_cons_succ])
  (refine wpC_loud rfl (by rfl) ?_; intro K hK; go_simp)
  refine (concat3_B (some ⟨V.heap.size, 0, none⟩) (some ⟨N, 0, none⟩) (some ⟨N + 1, 0, none⟩) 1 32 32 1 32 32 [1] a b _ _ V1 s1 s2 s3 (by omega) _ rfl).mono ?_
  rintro e w3 ⟨A3, n3, c3, rfl, o3, h3⟩
  have h23 : Below V1.heap.size V1 w3 := h2.trans (h3.mono (by omega))
  (refine hK.out _ _ (RBut.of_below (by have := h3; simpa using this)) ?_; clear hK K; try simp only [Act.put, List.setIfInBounds_toArray, List.set_cons_zero, List.set_cons_succ])
  have bz3 := bz1.to h23
  have hb3 := hb1.trans (h23.mono (by omega))
  have l3 := o3.len8
  have s3' := o3.sl
  have hq3 : N + 2 < w3.heap.size := bz3.lt
  have l3' : n3 ≤ 1099511627776 := by rw [l3]; simp [HA.out, HB.out]
  clear h2 h3 h23 s1 s2 s3 l3 o3 bz1 hb1
  (refine wpC_loud rfl (by rfl) ?_; intro K hK; go_simp)
  refine (sum_any A3 n3 c3 ([1] ++ a ++ b) w3 s3' l3').mono ?_
  rintro e w4 ⟨rfl, h4⟩
  rw [show shaS ([1] ++ a ++ b) = twoS a b from rfl]
  unfold hv
  have hl := twoS_len a b
  obtain ⟨sm, hsm⟩ : ∃ sm, sm = twoS a b := ⟨_, rfl⟩
  rw [← hsm] at hl ⊢
  have HS := Lib.hid hl
  have HT := Lib.hid hsm.symm
  clear hl hsm
  (refine hK.out _ _ (RBut.of_below h4) ?_; clear hK K; try simp only [Act.put, List.setIfInBounds_toArray, List.set_cons_zero, List.set_cons_succ])
  have hb4 := hb3.trans (h4.mono (by omega))
  refine wpC_store_blk rfl (by rfl) _ _ _ rfl (N + 2) 27 (B8 (List.replicate 32 0)) (B8 sm) rfl rfl (bz3.to h4) (by rw [B8_len, B8_len, HS.out]; rfl) (info_hash HS.out) (B8_one _) (fun w' h => h) ?_
  intro w9 b9 hb9
  simp only [Act.put, List.setIfInBounds_toArray, List.set_cons_zero, List.set_cons_succ]
  refine wpC_nil ?_
  have h4s := h4.size
  go_wp2_with fail
  exact bodyPost_ret (v := hv sm) (results_blk Try.results57 rfl b9 Try.underlying27 rfl (info_hash HS.out)) rfl ⟨by rw [HT.out]; rfl, by
    rw [HN.out]
    exact hb4.trans (below_but hb9 (by omega) (by omega))⟩
theorem str_toList (l : List UInt8) : (str l).toList = l := by
  rw [ByteArray.toList_eq]
  rfl
theorem str_take (l : List UInt8) (k : Nat) : (str l).extract 0 k = str (l.take k) := by
  apply ByteArray.ext
  simp [str, ByteArray.data_extract]
end Go.Proofs.Ytakebmpnbdlcoaa
/- The walk of capstanref2.Two. -/
set_option linter.unusedSimpArgs false
set_option linter.unusedVariables false
namespace Go.Proofs.Ytakebmpnbdlcoaa
open Go.RowKit
set_option maxRecDepth 100000
set_option maxHeartbeats 1000000 in
theorem refTwo_any (a b : List UInt8) (ha : a.length = 32) (hb : b.length = 32) (w : World) :
    Calls Try.prog 40 #[hv a, hv b] w fun e w' => e = .returned (hv (twoS a b)) ∧ Below w.heap.size w w' := by
  unfold hv
  obtain ⟨W, hW⟩ : ∃ W, W = ((w.alloc (.cells (B8 a).toArray 27)).alloc (.cells (B8 b).toArray 27)).alloc (.cells #[.int .u8 0, .int .u8 0, .int .u8 0, .int .u8 0, .int .u8 0, .int .u8 0, .int .u8 0, .int .u8 0, .int .u8 0, .int .u8 0, .int .u8 0, .int .u8 0, .int .u8 0, .int .u8 0, .int .u8 0, .int .u8 0, .int .u8 0, .int .u8 0, .int .u8 0, .int .u8 0, .int .u8 0, .int .u8 0, .int .u8 0, .int .u8 0, .int .u8 0, .int .u8 0, .int .u8 0, .int .u8 0, .int .u8 0, .int .u8 0, .int .u8 0, .int .u8 0] 27) := ⟨_, rfl⟩
  have hbw : Below w.heap.size w W := by
    subst hW
    exact (((Below.refl _ _).alloc (Nat.le_refl _) _).alloc (by simp) _).alloc (by simp; omega) _
  have ba : Blk W w.heap.size 27 (B8 a) := by
    subst hW
    exact (Blk.new w (B8 a).toArray 27).to (((Below.refl _ _).alloc (Nat.le_refl _) _).alloc (by simp) _)
  have bb : Blk W (w.heap.size + 1) 27 (B8 b) := by
    subst hW
    have := (Blk.new (w.alloc (.cells (B8 a).toArray 27)) (B8 b).toArray 27).to ((Below.refl _ _).alloc (Nat.le_refl _) (.cells #[.int .u8 0, .int .u8 0, .int .u8 0, .int .u8 0, .int .u8 0, .int .u8 0, .int .u8 0, .int .u8 0, .int .u8 0, .int .u8 0, .int .u8 0, .int .u8 0, .int .u8 0, .int .u8 0, .int .u8 0, .int .u8 0, .int .u8 0, .int .u8 0, .int .u8 0, .int .u8 0, .int .u8 0, .int .u8 0, .int .u8 0, .int .u8 0, .int .u8 0, .int .u8 0, .int .u8 0, .int .u8 0, .int .u8 0, .int .u8 0, .int .u8 0, .int .u8 0] 27))
    simpa using this
  have bz : Blk W (w.heap.size + 2) 27 (B8 (List.replicate 32 0)) := by
    subst hW
    have := Blk.new ((w.alloc (.cells (B8 a).toArray 27)).alloc (.cells (B8 b).toArray 27)) #[.int .u8 0, .int .u8 0, .int .u8 0, .int .u8 0, .int .u8 0, .int .u8 0, .int .u8 0, .int .u8 0, .int .u8 0, .int .u8 0, .int .u8 0, .int .u8 0, .int .u8 0, .int .u8 0, .int .u8 0, .int .u8 0, .int .u8 0, .int .u8 0, .int .u8 0, .int .u8 0, .int .u8 0, .int .u8 0, .int .u8 0, .int .u8 0, .int .u8 0, .int .u8 0, .int .u8 0, .int .u8 0, .int .u8 0, .int .u8 0, .int .u8 0, .int .u8 0] 27
    rw [show ((w.alloc (.cells (B8 a).toArray 27)).alloc (.cells (B8 b).toArray 27)).heap.size = w.heap.size + 2 from by simp] at this
    exact this
  have HW := Lib.hid hW
  have HA := Lib.hid ha
  have HB := Lib.hid hb
  clear hW ha hb
  go_enter Try.func40, Try.ntmps40
  go_upto_region 1 with fail
  refine wp_at HW.out ?_
  clear HW
  generalize hN : w.heap.size = N at *
  have HN := Lib.hid hN
  clear hN
  have hzl := bz.lt
  have s2 := (ba.sl (size := 1) (n := 32) (by rw [B8_len, HA.out]))
  have s3 := (bb.sl (size := 1) (n := 32) (by rw [B8_len, HB.out]))
  have o1 := Own.made (size := 1) (n := 1) W W.heap.size 5 #[.int .u8 1] (Nat.le_refl _) (by decide) rfl
  go_upto_region 2 with (first
    | (at_builtin
       refine wpl_app _ _ _ _ elB rfl rfl rfl o1 rfl (s2.alloc _) (B8_one _) (by omega) (by omega) (by simp) ?_
       intro A1 c1 w1 g1))
  have o2 : Own w1 W.heap.size 5 1 A1 33 c1 (B8 ([1] ++ a)) := by have := g1.own; rw [B8_app]; exact this
  have hzW : N + 2 < W.heap.size := hzl
  have hb1 : Below W.heap.size W w1 := ((Below.refl _ _).alloc (Nat.le_refl _) _).trans (g1.below o1 (by simp))
  have s31 := s3.to hb1
  have hs1 := hb1.size
  clear g1 o1 s2 s3 ba bb
  go_wp2_with (first
    | (at_builtin
       refine wpl_app _ _ _ _ elB rfl rfl rfl o2 rfl s31 (B8_one _) (by omega) (by omega) (by omega) ?_
       intro A2 c2 w2 g2))
  have s4 := g2.own.sl
  rw [← B8_app] at s4
  have hb2 : Below W.heap.size W w2 := hb1.trans (g2.below o2 (by omega))
  have bz2 := bz.to hb2
  clear g2 o2 s31 hb1 bz
  refine (refSum_any A2 _ c2 ([1] ++ a ++ b) w2 s4 (by omega)).mono ?_
  rintro e w4 ⟨rfl, h4⟩
  have hl := twoS_len a b
  obtain ⟨sm, hsm⟩ : ∃ sm, sm = twoS a b := ⟨_, rfl⟩
  rw [show shaS ([1] ++ a ++ b) = twoS a b from rfl]
  rw [← hsm] at hl ⊢
  unfold hv
  have HS := Lib.hid hl
  have HT := Lib.hid hsm.symm
  clear hl hsm
  have hb4 := hb2.trans (h4.mono hb2.size)
  have bz4 := bz2.to h4
  have h4s := hb4.size
  go_wp2_with (first
    | (refine wpl_store_blk rfl _ _ _ rfl (N + 2) 27 (B8 (List.replicate 32 0)) (B8 sm) rfl rfl bz4 (by rw [B8_len, B8_len, HS.out]; rfl) (info_hash HS.out) (B8_one _) ?_; intro w9 b9 hb9))
  exact bodyPost_ret (v := hv sm) (results_blk Try.results40 rfl b9 Try.underlying27 rfl (info_hash HS.out)) rfl ⟨by rw [HT.out]; rfl, by
    rw [HN.out]
    exact (hbw.trans (hb4.mono (by omega))).trans (below_but hb9 (by omega) (by omega))⟩
end Go.Proofs.Ytakebmpnbdlcoaa
/- Structs that fill a block of their own: a field is read, a field is stored, a value is built; two are held against each other. -/
set_option linter.unusedSimpArgs false
set_option linter.unusedVariables false
namespace Go.Proofs.Ytakebmpnbdlcoaa
open Go.RowKit
set_option maxRecDepth 100000

section
variable {P : Program} {ops : Array Oper} {Q : Exit → Act → World → Prop} {R : World → World → Prop}
/-- what is taken first, behind which two operations can come up, in either order -/
def wpT (P : Program) (ops : Array Oper) (Q : Exit → Act → World → Prop) (R : World → World → Prop) (l1 l2 : List (Nat × Bool)) : List Nat → Act → World → Prop
  | [], a, w => wpC P ops Q R l1 a w ∧ wpC P ops Q R l2 a w
  | i :: rest, a, w => ∃ o v, ops[i]? = some o ∧ YieldsIf P ops (R w) o v a ∧ wpT P ops Q R l1 l2 rest (a.put o.dst v) w
def canonTwo (ops : Array Oper) (i j : Nat) (r1 r2 : List (Nat × Bool)) : List Nat → Array Bool → Bool
  | [], listed => Region.ready .any ops listed == [i, j] && canonOk ops r1 (listed.setIfInBounds i true) && canonOk ops r2 (listed.setIfInBounds j true)
  | k :: rest, listed => Region.free .any ops listed k && (Region.ready .any ops listed).contains k && canonTwo ops i j r1 r2 rest (listed.setIfInBounds k true)
theorem wpAnyH_of_T (hrefl : ∀ w, R w w) (htr : ∀ a b c, R a b → R b c → R a c) (hs : Region.noSelect ops = true) (hQ : ∀ (d : Option Tmp) (v : Value) c a w, Q (.panic c) (a.put d v) w → Q (.panic c) a w) (i j : Nat) (r1 r2 : List (Nat × Bool)) :
    ∀ (l : List Nat) (fuel : Nat) (listed : Array Bool) (a : Act) (w : World) (S : World → Prop), canonTwo ops i j r1 r2 l listed = true → l.length + 1 + r1.length ≤ fuel → l.length + 1 + r2.length ≤ fuel → (∀ w', R w w' → S w') → wpT P ops Q R ((i, false) :: r1) ((j, false) :: r2) l a w →
      wpAnyH P .any ops Q S fuel listed a w
  | [], fuel, listed, a, w, S, hok, hf1, hf2, hS, h => by
    obtain ⟨f, rfl⟩ : ∃ f, fuel = f + 1 := ⟨fuel - 1, by simp at hf1; omega⟩
    simp only [canonTwo, Bool.and_eq_true, beq_iff_eq] at hok
    obtain ⟨⟨hr, h1⟩, h2⟩ := hok
    refine wpAnyH_all hr (by simp) fun m hm => ?_
    rcases List.mem_cons.1 hm with rfl | hm
    · exact wpOp_mono (fun a' w' h' => ⟨hS w' h'.1, wpAnyH_of_C hrefl htr hs hQ r1 f _ a' w' S h1 (by simp at hf1; omega) (fun w'' h'' => hS w'' (htr _ _ _ h'.1 h'')) h'.2⟩) h.1
    · obtain rfl : m = j := by simpa using hm
      exact wpOp_mono (fun a' w' h' => ⟨hS w' h'.1, wpAnyH_of_C hrefl htr hs hQ r2 f _ a' w' S h2 (by simp at hf2; omega) (fun w'' h'' => hS w'' (htr _ _ _ h'.1 h'')) h'.2⟩) h.2
  | k :: rest, fuel, listed, a, w, S, hok, hf1, hf2, hS, h => by
    obtain ⟨f, rfl⟩ : ∃ f, fuel = f + 1 := ⟨fuel - 1, by simp at hf1; omega⟩
    simp only [canonTwo, Bool.and_eq_true] at hok
    obtain ⟨o, v, ho, hy, hr⟩ := h
    have ih := wpAnyH_of_T hrefl htr hs hQ i j r1 r2 rest f (listed.setIfInBounds k true) (a.put o.dst v) w (fun w' => S w' ∧ R w w') hok.2 (by simp at hf1; omega) (by simp at hf2; omega) (fun w' h' => ⟨hS w' h', h'⟩) hr
    refine wpAnyH_weaken (fun w' h' => h'.1) _ _ _ _ (wpAnyH_take (oi := o) (v := v) ho hs hok.1.1 hok.1.2 (fun c a w => hQ o.dst v c a w) ?_ ⟨hS w (hrefl w), hrefl w⟩ ih)
    rcases hy with ⟨h1, h2⟩ | h1
    · exact .inl ⟨h1, fun w' h' => h2 w' h'.2⟩
    · exact .inr h1
theorem wp_region_T {id : Nat} {a : Act} {w : World} (l : List Nat) (i j : Nat) (r1 r2 : List (Nat × Bool)) (R : World → World → Prop) (hm : P.follows .mixedOrders = true) (hs : Region.noSelect ops = true) (hok : canonTwo ops i j r1 r2 l (Array.replicate ops.size false) = true) (hl1 : l.length + 1 + r1.length ≤ ops.size) (hl2 : l.length + 1 + r2.length ≤ ops.size)
    (hrefl : ∀ w, R w w) (htr : ∀ a b c, R a b → R b c → R a c) (hQ : ∀ (d : Option Tmp) (v : Value) c a w, Q (.panic c) (a.put d v) w → Q (.panic c) a w)
    (h : wpT P ops Q R ((i, false) :: r1) ((j, false) :: r2) l a w.drew) : (Code.region id ops true).wp P Q a w :=
  wp_region_held (S := fun _ => True) hm (wpAnyH_of_T hrefl htr hs hQ i j r1 r2 l _ _ _ _ _ hok hl1 hl2 (fun _ _ => trivial) h)
theorem wpT_quiet {l1 l2 : List (Nat × Bool)} {i : Nat} {rest : List Nat} {o : Oper} {v : Value} {a : Act} {w : World} (ho : nth ops.toList i = some o) (hw : Region.wanted o (yielded ops a.tmps) = true)
    (hy : ∀ w', R w w' → (execOp a.eval o).run P w' = .ok (.value v) w') (h : wpT P ops Q R l1 l2 rest (a.put o.dst v) w) : wpT P ops Q R l1 l2 (i :: rest) a w := ⟨o, v, nth_ops ho, .inl ⟨hw, hy⟩, h⟩
theorem wpT_skip {l1 l2 : List (Nat × Bool)} {i : Nat} {rest : List Nat} {o : Oper} {a : Act} {w : World} (ho : nth ops.toList i = some o) (hw : Region.wanted o (yielded ops a.tmps) = false)
    (h : wpT P ops Q R l1 l2 rest (a.put o.dst undef) w) : wpT P ops Q R l1 l2 (i :: rest) a w := ⟨o, undef, nth_ops ho, .inr ⟨hw, rfl⟩, h⟩
theorem wpT_load {l1 l2 : List (Nat × Bool)} {i : Nat} {rest : List Nat} {o : Oper} {a : Act} {w : World} (ho : nth ops.toList i = some o) (hw : Region.wanted o (yielded ops a.tmps) = true) (ty : TypeId) (x : Operand) (hop : o.op = .load ty x)
    (b off : Nat) (hx : a.eval x = .pointer (some ⟨b, off, none⟩)) (cs : List Value) (d : TypeDesc) (hS : ∀ w', R w w' → w'.rangeAt b off cs) (hu : P.underlying ty = some d) (hd : d.isRow = true) (hi : (P.info? ty).map (·.size) = some cs.length)
    (h : wpT P ops Q R l1 l2 rest (a.put o.dst (.agg cs.toArray)) w) : wpT P ops Q R l1 l2 (i :: rest) a w :=
  ⟨o, _, nth_ops ho, yieldsIf_load_mid hw ty x hop b off hx cs d hS hu hd hi, h⟩
theorem wpT_nil {l1 l2 : List (Nat × Bool)} {a : Act} {w : World} (h1 : wpC P ops Q R l1 a w) (h2 : wpC P ops Q R l2 a w) : wpT P ops Q R l1 l2 [] a w := ⟨h1, h2⟩
end
/-- some cells from place o on are others -/
def put_ (cs : List Value) (o : Nat) (new : List Value) : List Value := cs.take o ++ new ++ cs.drop (o + new.length)
theorem put_mid (a b c new : List Value) (h : new.length = b.length) : put_ (a ++ b ++ c) a.length new = a ++ new ++ c := by
  unfold put_
  rw [h, show a ++ b ++ c = a ++ (b ++ c) from List.append_assoc _ _ _, List.take_left' rfl, ← List.append_assoc, List.drop_left' (by simp)]
theorem put_len (cs new : List Value) (o : Nat) (h : o + new.length ≤ cs.length) : (put_ cs o new).length = cs.length := by
  unfold put_
  simp
  omega
theorem put_one (cs : List Value) (o : Nat) (v : Value) (h : o < cs.length) : put_ cs o [v] = cs.set o v := by
  unfold put_
  rw [List.set_eq_take_append_cons_drop, if_pos h]
  simp
theorem put_all (cs new : List Value) (h : new.length = cs.length) : put_ cs 0 new = new := by
  unfold put_
  simp [h]

section
variable {w w' : World} {b : Nat} {t : TypeId} {cs : List Value}
/-- some of a block's cells, as they lie -/
theorem Blk.sub (h : Blk w b t cs) (o : Nat) (new : List Value) (hs : (cs.drop o).take new.length = new) : w.rangeAt b o new := fun j v hv => by
  have hj := (List.getElem?_eq_some_iff.1 hv).1
  rw [← hs, List.getElem?_take, if_pos hj, List.getElem?_drop] at hv
  rw [h.cell, hv]
theorem setCells_blk_at (a new old c : List Value) (w : World) (h : Blk w b t (a ++ old ++ c)) (hl : old.length = new.length) : Blk (w.setCells b a.length new) b t (a ++ new ++ c) := by
  induction new generalizing a w old with
  | nil =>
    obtain rfl : old = [] := List.eq_nil_of_length_eq_zero hl
    exact h
  | cons v vs ih =>
    rcases old with _ | ⟨o, old⟩
    · simp at hl
    · have h1 := h.set_ a.length v
      have e1 : (a ++ o :: old ++ c).set a.length v = (a ++ [v]) ++ old ++ c := by simp
      rw [e1] at h1
      have := ih (a ++ [v]) old _ h1 (by simpa using hl)
      simp only [List.append_assoc, List.cons_append, List.nil_append, List.length_append, List.length_cons, List.length_nil, Nat.zero_add] at this ⊢
      exact this
theorem setCells_put (h : Blk w b t cs) (o : Nat) (new : List Value) (hl : o + new.length ≤ cs.length) : Blk (w.setCells b o new) b t (put_ cs o new) := by
  have e1 : cs = cs.take o ++ (cs.drop o).take new.length ++ cs.drop (o + new.length) := by
    have e2 : cs.drop (o + new.length) = (cs.drop o).drop new.length := by rw [List.drop_drop]
    rw [e2, List.append_assoc, List.take_append_drop, List.take_append_drop]
  have hlen : (cs.take o).length = o := by rw [List.length_take]; omega
  rw [e1] at h
  have := setCells_blk_at (cs.take o) new ((cs.drop o).take new.length) (cs.drop (o + new.length)) w h (by simp; omega)
  rw [hlen] at this
  exact this
theorem Blk.there_at (h : Blk w b t cs) (o n : Nat) (hl : o + n ≤ cs.length) : w.there b o n := fun j hj => ⟨by rw [h.cell, List.getElem?_eq_getElem (by omega)]; rfl, h.fz _⟩
end

section
variable {P : Program}
theorem run_storeVar_val (w : World) (b o : Nat) (ty : TypeId) (v : Value) (new : List Value) (hv : v.cells = new.toArray) (ht : w.there b o new.length) (hi : (P.info? ty).map (·.size) = some new.length) (h1 : ∀ u ∈ new, u.oneCell' = true) :
    (storeVar ty ⟨b, o, none⟩ v).run P w = .ok () (w.setCells b o new) := by
  have h2 := run_storeVar_mid (P := P) w b o ty new.toArray (by simpa using ht) (by simpa using hi) (all_oneCell_toArray h1)
  have e : storeVar ty ⟨b, o, none⟩ v = storeVar ty ⟨b, o, none⟩ (.agg new.toArray) := by
    unfold storeVar
    rw [hv]
    rfl
  rw [e]
  exact h2
/-- a value is stored into a field (or the whole) of a block known whole -/
theorem wp_store_fld {op : Oper} {a : Act} {w : World} {K : Act → World → Prop} {Q : Exit → Act → World → Prop} (ty : TypeId) (x y : Operand) (ho : op.op = .store ty x y)
    (b o : Nat) (t : TypeId) (cs new : List Value) (hx : a.eval x = .pointer (some ⟨b, o, none⟩)) (v : Value) (hy : a.eval y = v) (hv : v.cells = new.toArray) (hb : Blk w b t cs) (hl : o + new.length ≤ cs.length)
    (hi : (P.info? ty).map (·.size) = some new.length) (h1 : ∀ u ∈ new, u.oneCell' = true)
    (h : ∀ w', Blk w' b t (put_ cs o new) → RBut (some b) w w' → K (a.put op.dst undef) w') : op.wp P a w K Q := by
  subst hy
  unfold Oper.wp execOp
  simp only [ho, hx, Instr.storeAt, Instr.sureAddr, Sem.run_bind, Sem.run_pure, Result.andThen_ok, run_storeVar_val w b o ty (a.eval y) new hv (hb.there_at o _ hl) hi h1]
  exact h _ (setCells_put hb o new hl) (setCells_but new o w)
theorem wpl_store_fld {ops : Array Oper} {rest : List Oper} {op : Oper} {a : Act} {w : World} {Q : Exit → Act → World → Prop} (hw : Region.wanted op (yielded ops a.tmps) = true) (ty : TypeId) (x y : Operand) (ho : op.op = .store ty x y)
    (b o : Nat) (t : TypeId) (cs new : List Value) (hx : a.eval x = .pointer (some ⟨b, o, none⟩)) (v : Value) (hy : a.eval y = v) (hv : v.cells = new.toArray) (hb : Blk w b t cs) (hl : o + new.length ≤ cs.length)
    (hi : (P.info? ty).map (·.size) = some new.length) (h1 : ∀ u ∈ new, u.oneCell' = true)
    (h : ∀ w', Blk w' b t (put_ cs o new) → RBut (some b) w w' → wpList P ops Q rest (a.put op.dst undef) w') : wpList P ops Q (op :: rest) a w :=
  wpList_wanted hw (wp_store_fld ty x y ho b o t cs new hx v hy hv hb hl hi h1 h)
/-- a field of several cells is read -/
theorem wpl_load_fld {ops : Array Oper} {rest : List Oper} {op : Oper} {a : Act} {w : World} {Q : Exit → Act → World → Prop} (hw : Region.wanted op (yielded ops a.tmps) = true) (ty : TypeId) (x : Operand) (ho : op.op = .load ty x)
    (b o : Nat) (hx : a.eval x = .pointer (some ⟨b, o, none⟩)) (cs : List Value) (d : TypeDesc) (hc : w.rangeAt b o cs)
    (hu : P.underlying ty = some d) (hd : d.isRow = true) (hi : (P.info? ty).map (·.size) = some cs.length)
    (h : wpList P ops Q rest (a.put op.dst (.agg cs.toArray)) w) : wpList P ops Q (op :: rest) a w :=
  wpList_wanted hw (wp_load_mid ty x ho b o hx cs d hc hu hd hi h)
/-- a value is built of parts -/
theorem wpl_build {ops : Array Oper} {rest : List Oper} {o : Oper} {a : Act} {w : World} {Q : Exit → Act → World → Prop} (hw : Region.wanted o (yielded ops a.tmps) = true) (t : TypeId) (parts : Array (Nat × Operand)) (ho : o.op = .build t parts)
    (cells : Array Value) (hf : P.built t (parts.toList.map fun x => (x.1, a.eval x.2)) = some cells)
    (h : wpList P ops Q rest (a.put o.dst (.agg cells)) w) : wpList P ops Q (o :: rest) a w := by
  refine wpList_wanted hw ?_
  unfold Oper.wp execOp
  simp only [ho, run_build w t _ cells (by rw [Array.toList_map]; exact hf), Sem.run_bind, Result.andThen_ok, Sem.run_pure]
  exact h
/-- what a built value's parts do to the zero value -/
theorem fill_nil (place : Nat → Option (Nat × Nat)) (cs : Array Value) : Instr.fill place cs [] = some cs := rfl
theorem zip_put (cs new : List Value) (o : Nat) (h : o + new.length ≤ cs.length) : (new.toArray.zipIdx.foldl (fun (cs : Array Value) (x : Value × Nat) => cs.setIfInBounds (o + x.2) x.1) cs.toArray) = (put_ cs o new).toArray := by
  have key : ∀ (new : List Value) (k o : Nat) (cs : List Value), o + k + new.length ≤ cs.length → ((new.zipIdx k).foldl (fun (cs : Array Value) (x : Value × Nat) => cs.setIfInBounds (o + x.2) x.1) cs.toArray) = (put_ cs (o + k) new).toArray := by
    intro new
    induction new with
    | nil => intro k o cs h; simp [put_]
    | cons v vs ih =>
      intro k o cs h
      simp only [List.zipIdx_cons, List.foldl_cons, List.setIfInBounds_toArray]
      rw [ih (k + 1) o (cs.set (o + k) v) (by simp at h ⊢; omega)]
      congr 1
      have hk : o + k < cs.length := by simp at h; omega
      unfold put_
      rw [List.take_set, List.drop_set, if_pos (by omega)]
      rw [show o + (k + 1) = o + k + 1 from by omega, List.take_add_one, List.getElem?_eq_getElem hk]
      have e2 : (List.take (o + k) cs).length = o + k := by rw [List.length_take]; omega
      rw [List.set_append_right _ _ (by rw [e2]; exact Nat.le_refl _), e2]
      simp only [Nat.sub_self, Option.toList_some, List.set_cons_zero, List.append_assoc, List.cons_append, List.nil_append, List.length_cons]
      rw [show o + k + 1 + vs.length = o + k + (vs.length + 1) from by omega]
  have e := key new 0 o cs (by simpa using h)
  simp only [Nat.add_zero] at e
  rw [← e]
  rw [← Array.foldl_toList, Array.toList_zipIdx]
theorem fill_cons (place : Nat → Option (Nat × Nat)) (cs new : List Value) (i o : Nat) (v : Value) (rest : List (Nat × Value)) (hp : place i = some (o, new.length)) (hv : v.cells = new.toArray) (hl : o + new.length ≤ cs.length) :
    Instr.fill place cs.toArray ((i, v) :: rest) = Instr.fill place (put_ cs o new).toArray rest := by
  conv => lhs; unfold Instr.fill
  rw [hp, hv]
  dsimp only
  rw [if_neg (by simp; omega)]
  congr 1
  exact zip_put cs new o hl
theorem built_struct {t : TypeId} {fs : Array Field} {z : Value} {places : List (Nat × Nat)} (hz : (P.info? t).bind (·.zero) = some z) (hu : P.underlying t = some (.struct fs)) (hp : fs.toList.mapM (fun f => (P.info? f.type).map fun i => (f.offset, i.size)) = some places) (parts : List (Nat × Value)) :
    P.built t parts = Instr.fill (places.toArray[·]?) z.cells parts := by
  unfold Program.built
  cases hi : P.info? t with
  | none => rw [hi] at hz; cases hz
  | some it =>
    rw [hi] at hz
    simp only [Option.bind_some] at hz
    simp only [hu, hz, hp]
/-- a value is built in a drawn region, where nothing else can come up -/
theorem wpC_build {ops : Array Oper} {Q : Exit → Act → World → Prop} {R : World → World → Prop} {i : Nat} {rest : List (Nat × Bool)} {o : Oper} {a : Act} {w : World} (hrefl : ∀ w, R w w) (ho : nth ops.toList i = some o) (hw : Region.wanted o (yielded ops a.tmps) = true) (t : TypeId) (parts : Array (Nat × Operand)) (hop : o.op = .build t parts)
    (cells : Array Value) (hf : P.built t (parts.toList.map fun x => (x.1, a.eval x.2)) = some cells) (h : wpC P ops Q R rest (a.put o.dst (.agg cells)) w) : wpC P ops Q R ((i, false) :: rest) a w := by
  refine wpC_val (v := .agg cells) hrefl ho hw ?_ h
  unfold execOp
  simp only [hop, run_build w t _ cells (by rw [Array.toList_map]; exact hf), Sem.run_bind, Result.andThen_ok, Sem.run_pure]
/-- a value is built in a drawn region, as soon as it may be -/
theorem wpC_build_t {ops : Array Oper} {Q : Exit → Act → World → Prop} {R : World → World → Prop} {i : Nat} {rest : List (Nat × Bool)} {o : Oper} {a : Act} {w : World} (ho : nth ops.toList i = some o) (hw : Region.wanted o (yielded ops a.tmps) = true) (t : TypeId) (parts : Array (Nat × Operand)) (hop : o.op = .build t parts)
    (cells : Array Value) (hf : P.built t (parts.toList.map fun x => (x.1, a.eval x.2)) = some cells) (h : wpC P ops Q R rest (a.put o.dst (.agg cells)) w) : wpC P ops Q R ((i, true) :: rest) a w := by
  refine wpC_quiet (v := .agg cells) ho hw (fun w' _ => ?_) h
  unfold execOp
  simp only [hop, run_build w' t _ cells (by rw [Array.toList_map]; exact hf), Sem.run_bind, Result.andThen_ok, Sem.run_pure]
/-- a field (or the whole) is stored in a drawn region -/
theorem wpC_store_fld {ops : Array Oper} {Q : Exit → Act → World → Prop} {R : World → World → Prop} {i : Nat} {rest : List (Nat × Bool)} {op : Oper} {a : Act} {w : World} (hn : nth ops.toList i = some op) (hw : Region.wanted op (yielded ops a.tmps) = true) (ty : TypeId) (x y : Operand) (ho : op.op = .store ty x y)
    (b o : Nat) (t : TypeId) (cs new : List Value) (hx : a.eval x = .pointer (some ⟨b, o, none⟩)) (v : Value) (hy : a.eval y = v) (hv : v.cells = new.toArray) (hb : Blk w b t cs) (hl : o + new.length ≤ cs.length)
    (hi : (P.info? ty).map (·.size) = some new.length) (h1 : ∀ u ∈ new, u.oneCell' = true) (hR : ∀ w', RBut (some b) w w' → R w w')
    (h : ∀ w', Blk w' b t (put_ cs o new) → RBut (some b) w w' → wpC P ops Q R rest (a.put op.dst undef) w') : wpC P ops Q R ((i, false) :: rest) a w := by
  unfold wpC wpOp
  simp only [nth_ops hn, hw, if_true]
  refine .inl ?_
  exact wp_store_fld ty x y ho b o t cs new hx v hy hv hb hl hi h1 fun w' h2 h3 => ⟨hR w' h3, h w' h2 h3⟩
theorem results_blk2 {fn : Func} {p q : Tmp} {ty : TypeId} (hr : fn.results = #[.cell p ty, .tmp q]) {tmps : Array Value} {w : World} {b : Nat} {t : TypeId} {cs : List Value} {d : TypeDesc} {v : Value} (hp : tmps.getD p undef = .pointer (some ⟨b, 0, none⟩)) (hv : tmps.getD q undef = v) (hc : Blk w b t cs)
    (hu : P.underlying ty = some d) (hd : d.isRow = true) (hi : (P.info? ty).map (·.size) = some cs.length) : (results fn tmps).run P w = .ok (.tuple #[.agg cs.toArray, v]) w := by
  have hp' : tmps[p]?.getD undef = .pointer (some ⟨b, 0, none⟩) := by simpa using hp
  have hv' : tmps[q]?.getD undef = v := by simpa using hv
  simp only [results, hr]
  simp [Sem.run_bind, hp', hv', asAddr, run_loadVar_mid w b 0 ty cs d hc.range hu hd hi]
end
end Go.Proofs.Ytakebmpnbdlcoaa
/- A dispute's game as cells: its fields are read, and stored. -/
set_option linter.unusedSimpArgs false
set_option linter.unusedVariables false
namespace Go.Proofs.Ytakebmpnbdlcoaa
open Go.RowKit
set_option maxRecDepth 100000

/-- What a game is, but for its transactions. -/
structure GD where
  lo : Int
  hi : Int
  rlo : List UInt8
  rhi : List UInt8
  mid : List UInt8
  turn : Int
  moves : Int
  limit : Int
  won : Bool
  cl : Int
  ref : Int
  deriving DecidableEq
structure GLen (d : GD) : Prop where
  rlo : d.rlo.length = 32
  rhi : d.rhi.length = 32
  mid : d.mid.length = 32
def gtail (d : GD) : List Value := [.int .i64 d.turn, .int .i64 d.moves, .int .i64 d.limit, .bool d.won, .int .i64 d.cl, .int .i64 d.ref]
def gcells (v : Value) (d : GD) : List Value := [v, .int .i64 d.lo, .int .i64 d.hi] ++ (B8 d.rlo ++ (B8 d.rhi ++ (B8 d.mid ++ gtail d)))
def gval (v : Value) (d : GD) : Value := .agg (gcells v d).toArray
/-- sums, one behind the other -/
def H8 (hs : List (List UInt8)) : List Value := hs.flatMap B8
theorem gcells_len {v : Value} {d : GD} (h : GLen d) : (gcells v d).length = 105 := by
  simp [gcells, gtail, B8_len, h.rlo, h.rhi, h.mid]
theorem gcells_one {v : Value} {d : GD} (hv : v.oneCell' = true) : ∀ u ∈ gcells v d, u.oneCell' = true := by
  intro u hu
  simp only [gcells, gtail, List.mem_append, List.mem_cons, List.not_mem_nil, or_false] at hu
  rcases hu with (rfl | rfl | rfl) | hu | hu | hu | (rfl | rfl | rfl | rfl | rfl | rfl)
  all_goals first | exact hv | exact B8_one _ _ hu | rfl
section
variable {v : Value} {d : GD}
theorem g_tail (h : GLen d) (k : Nat) : (gcells v d)[99 + k]? = (gtail d)[k]? := by
  unfold gcells
  rw [List.getElem?_append_right (by simp; omega), List.getElem?_append_right (by rw [B8_len, h.rlo]; simp; omega), List.getElem?_append_right (by rw [B8_len, B8_len, h.rlo, h.rhi]; simp; omega),
    List.getElem?_append_right (by rw [B8_len, B8_len, B8_len, h.rlo, h.rhi, h.mid]; simp; omega)]
  congr 1
  rw [B8_len, B8_len, B8_len, h.rlo, h.rhi, h.mid]
  simp
  omega
theorem g_rlo (h : GLen d) : ((gcells v d).drop 3).take (B8 d.rlo).length = B8 d.rlo := by simp [gcells]
theorem g_rhi (h : GLen d) : ((gcells v d).drop 35).take (B8 d.rhi).length = B8 d.rhi := by
  have : (gcells v d).drop 35 = B8 d.rhi ++ (B8 d.mid ++ gtail d) := by
    unfold gcells
    rw [← List.append_assoc]
    exact List.drop_left' (by simp [B8_len, h.rlo])
  rw [this, List.take_left' rfl]
theorem g_mid (h : GLen d) : ((gcells v d).drop 67).take (B8 d.mid).length = B8 d.mid := by
  have : (gcells v d).drop 67 = B8 d.mid ++ gtail d := by
    unfold gcells
    rw [← List.append_assoc, ← List.append_assoc]
    exact List.drop_left' (by simp [B8_len, h.rlo, h.rhi])
  rw [this, List.take_left' rfl]
theorem p_txs (u : Value) : put_ (gcells v d) 0 [u] = gcells u d := by simp [put_, gcells]
theorem p_lo (x : Int) : put_ (gcells v d) 1 [.int .i64 x] = gcells v { d with lo := x } := by simp [put_, gcells, gtail]
theorem p_hi (x : Int) : put_ (gcells v d) 2 [.int .i64 x] = gcells v { d with hi := x } := by simp [put_, gcells, gtail]
theorem p_rlo (h : GLen d) (x : List UInt8) (hx : x.length = 32) : put_ (gcells v d) 3 (B8 x) = gcells v { d with rlo := x } := by
  have := put_mid [v, .int .i64 d.lo, .int .i64 d.hi] (B8 d.rlo) (B8 d.rhi ++ (B8 d.mid ++ gtail d)) (B8 x) (by simp [B8_len, h.rlo, hx])
  simpa [gcells, gtail] using this
theorem p_rhi (h : GLen d) (x : List UInt8) (hx : x.length = 32) : put_ (gcells v d) 35 (B8 x) = gcells v { d with rhi := x } := by
  have := put_mid ([v, .int .i64 d.lo, .int .i64 d.hi] ++ B8 d.rlo) (B8 d.rhi) (B8 d.mid ++ gtail d) (B8 x) (by simp [B8_len, h.rhi, hx])
  rw [show ([v, Value.int .i64 d.lo, .int .i64 d.hi] ++ B8 d.rlo).length = 35 from by simp [B8_len, h.rlo]] at this
  simpa [gcells, gtail] using this
theorem p_mid (h : GLen d) (x : List UInt8) (hx : x.length = 32) : put_ (gcells v d) 67 (B8 x) = gcells v { d with mid := x } := by
  have := put_mid ([v, .int .i64 d.lo, .int .i64 d.hi] ++ B8 d.rlo ++ B8 d.rhi) (B8 d.mid) (gtail d) (B8 x) (by simp [B8_len, h.mid, hx])
  rw [show ([v, Value.int .i64 d.lo, .int .i64 d.hi] ++ B8 d.rlo ++ B8 d.rhi).length = 67 from by simp [B8_len, h.rlo, h.rhi]] at this
  simpa [gcells, gtail] using this
theorem p_tail (h : GLen d) (k : Nat) (u : Value) (hk : k < 6) (d' : GD) (h1 : d'.lo = d.lo) (h2 : d'.hi = d.hi) (h3 : d'.rlo = d.rlo) (h4 : d'.rhi = d.rhi) (h5 : d'.mid = d.mid) (ht : (gtail d).set k u = gtail d') :
    put_ (gcells v d) (99 + k) [u] = gcells v d' := by
  rw [put_one _ _ _ (by rw [gcells_len h]; omega)]
  unfold gcells
  rw [h1, h2, h3, h4, h5, ← ht]
  rw [List.set_append_right _ _ (by simp; omega), List.set_append_right _ _ (by rw [B8_len, h.rlo]; simp; omega), List.set_append_right _ _ (by rw [B8_len, B8_len, h.rlo, h.rhi]; simp; omega),
    List.set_append_right _ _ (by rw [B8_len, B8_len, B8_len, h.rlo, h.rhi, h.mid]; simp; omega)]
  rw [B8_len, B8_len, B8_len, h.rlo, h.rhi, h.mid]
  simp only [List.length_cons, List.length_nil]
  rw [show 99 + k - (0 + 1 + 1 + 1) - 32 - 32 - 32 = k from by omega]
theorem p_turn (h : GLen d) (x : Int) : put_ (gcells v d) 99 [.int .i64 x] = gcells v { d with turn := x } := p_tail h 0 _ (by omega) _ rfl rfl rfl rfl rfl rfl
theorem p_moves (h : GLen d) (x : Int) : put_ (gcells v d) 100 [.int .i64 x] = gcells v { d with moves := x } := p_tail h 1 _ (by omega) _ rfl rfl rfl rfl rfl rfl
theorem p_limit (h : GLen d) (x : Int) : put_ (gcells v d) 101 [.int .i64 x] = gcells v { d with limit := x } := p_tail h 2 _ (by omega) _ rfl rfl rfl rfl rfl rfl
theorem p_won (h : GLen d) (x : Bool) : put_ (gcells v d) 102 [.bool x] = gcells v { d with won := x } := p_tail h 3 _ (by omega) _ rfl rfl rfl rfl rfl rfl
theorem p_cl (h : GLen d) (x : Int) : put_ (gcells v d) 103 [.int .i64 x] = gcells v { d with cl := x } := p_tail h 4 _ (by omega) _ rfl rfl rfl rfl rfl rfl
theorem p_ref (h : GLen d) (x : Int) : put_ (gcells v d) 104 [.int .i64 x] = gcells v { d with ref := x } := p_tail h 5 _ (by omega) _ rfl rfl rfl rfl rfl rfl
end
/-- A block that holds a game. -/
structure GB (t : TypeId) (w : World) (b : Nat) (v : Value) (d : GD) : Prop where
  blk : Blk w b t (gcells v d)
  len : GLen d
section
variable {t : TypeId} {w w' : World} {b : Nat} {v : Value} {d : GD}
theorem GB.c0 (h : GB t w b v d) : w.cell? ⟨b, 0, none⟩ = some v := by rw [h.blk.cell]; rfl
theorem GB.c1 (h : GB t w b v d) : w.cell? ⟨b, 1, none⟩ = some (.int .i64 d.lo) := by rw [h.blk.cell]; rfl
theorem GB.c2 (h : GB t w b v d) : w.cell? ⟨b, 2, none⟩ = some (.int .i64 d.hi) := by rw [h.blk.cell]; rfl
theorem GB.c99 (h : GB t w b v d) : w.cell? ⟨b, 99, none⟩ = some (.int .i64 d.turn) := by rw [h.blk.cell, g_tail h.len 0]; rfl
theorem GB.c100 (h : GB t w b v d) : w.cell? ⟨b, 100, none⟩ = some (.int .i64 d.moves) := by rw [h.blk.cell, g_tail h.len 1]; rfl
theorem GB.c101 (h : GB t w b v d) : w.cell? ⟨b, 101, none⟩ = some (.int .i64 d.limit) := by rw [h.blk.cell, g_tail h.len 2]; rfl
theorem GB.c102 (h : GB t w b v d) : w.cell? ⟨b, 102, none⟩ = some (.bool d.won) := by rw [h.blk.cell, g_tail h.len 3]; rfl
theorem GB.c103 (h : GB t w b v d) : w.cell? ⟨b, 103, none⟩ = some (.int .i64 d.cl) := by rw [h.blk.cell, g_tail h.len 4]; rfl
theorem GB.c104 (h : GB t w b v d) : w.cell? ⟨b, 104, none⟩ = some (.int .i64 d.ref) := by rw [h.blk.cell, g_tail h.len 5]; rfl
theorem GB.r3 (h : GB t w b v d) : w.rangeAt b 3 (B8 d.rlo) := h.blk.sub 3 _ (g_rlo h.len)
theorem GB.r35 (h : GB t w b v d) : w.rangeAt b 35 (B8 d.rhi) := h.blk.sub 35 _ (g_rhi h.len)
theorem GB.r67 (h : GB t w b v d) : w.rangeAt b 67 (B8 d.mid) := h.blk.sub 67 _ (g_mid h.len)
theorem GB.to (h : GB t w b v d) (hb : Below w.heap.size w w') : GB t w' b v d := ⟨h.blk.to hb, h.len⟩
theorem GB.but {row : Option Nat} (h : GB t w b v d) (hb : RBut row w w') (hne : some b ≠ row) : GB t w' b v d := ⟨h.blk.but hb hne, h.len⟩
theorem GB.lt (h : GB t w b v d) : b < w.heap.size := h.blk.lt
theorem GB.bel {B : Nat} (h : GB t w b v d) (hb : Below B w w') (hB : b < B) : GB t w' b v d := ⟨h.blk.below hb hB, h.len⟩
end
section
variable {P : Program} {ops : Array Oper} {rest : List Oper} {op : Oper} {a : Act} {Q : Exit → Act → World → Prop} {t : TypeId} {w : World} {b : Nat} {v : Value} {d : GD}
/-- a field of a game is stored -/
theorem wpl_gstore (gb : GB t w b v d) (o : Nat) {v' : Value} {d' : GD} {new : List Value} (hp : put_ (gcells v d) o new = gcells v' d') (hd' : GLen d') (hw : Region.wanted op (yielded ops a.tmps) = true) (ty : TypeId) (x y : Operand) (ho : op.op = .store ty x y)
    (hx : a.eval x = .pointer (some ⟨b, o, none⟩)) (v0 : Value) (hy : a.eval y = v0) (hv : v0.cells = new.toArray) (hl : o + new.length ≤ 105)
    (hi : (P.info? ty).map (·.size) = some new.length) (h1 : ∀ u ∈ new, u.oneCell' = true)
    (h : ∀ w', GB t w' b v' d' → RBut (some b) w w' → wpList P ops Q rest (a.put op.dst undef) w') : wpList P ops Q (op :: rest) a w :=
  wpl_store_fld hw ty x y ho b o t _ new hx v0 hy hv gb.blk (by rw [gcells_len gb.len]; exact hl) hi h1 fun w' h2 h3 => h w' ⟨by rw [← hp]; exact h2, hd'⟩ h3
/-- a field of one cell is stored -/
theorem wpl_gset (gb : GB t w b v d) (o : Nat) {v' v0 : Value} {d' : GD} (hp : put_ (gcells v d) o [v0] = gcells v' d') (hd' : GLen d') (hl : o < 105) (hw : Region.wanted op (yielded ops a.tmps) = true) (ty : TypeId) (x y : Operand) (ho : op.op = .store ty x y)
    (hx : a.eval x = .pointer (some ⟨b, o, none⟩)) (hy : a.eval y = v0) (hv : v0.cells = #[v0]) (hi : (P.info? ty).map (·.size) = some 1) (h1 : v0.oneCell' = true)
    (h : ∀ w', GB t w' b v' d' → RBut (some b) w w' → wpList P ops Q rest (a.put op.dst undef) w') : wpList P ops Q (op :: rest) a w :=
  wpl_gstore gb o hp hd' hw ty x y ho hx v0 hy hv (by simp; omega) hi (by intro u hu; simp at hu; subst hu; exact h1) h
/-- a whole game is read -/
theorem wpl_gload (gb : GB t w b v d) (hw : Region.wanted op (yielded ops a.tmps) = true) (ty : TypeId) (x : Operand) (ho : op.op = .load ty x) (hx : a.eval x = .pointer (some ⟨b, 0, none⟩)) (ds : TypeDesc)
    (hu : P.underlying ty = some ds) (hd : ds.isRow = true) (hi : (P.info? ty).map (·.size) = some 105)
    (h : wpList P ops Q rest (a.put op.dst (gval v d)) w) : wpList P ops Q (op :: rest) a w :=
  wpl_load_fld hw ty x ho b 0 hx (gcells v d) ds gb.blk.range hu hd (by rw [hi, gcells_len gb.len]) h
/-- a whole game is stored -/
theorem wpl_gput {cs : List Value} (hb : Blk w b t cs) (hl : cs.length = 105) (hd : GLen d) (h1 : v.oneCell' = true) (hw : Region.wanted op (yielded ops a.tmps) = true) (ty : TypeId) (x y : Operand) (ho : op.op = .store ty x y)
    (hx : a.eval x = .pointer (some ⟨b, 0, none⟩)) (hy : a.eval y = gval v d) (hi : (P.info? ty).map (·.size) = some 105)
    (h : ∀ w', GB t w' b v d → RBut (some b) w w' → wpList P ops Q rest (a.put op.dst undef) w') : wpList P ops Q (op :: rest) a w :=
  wpl_store_fld hw ty x y ho b 0 t cs (gcells v d) hx _ hy rfl hb (by rw [gcells_len hd]; omega) (by rw [hi, gcells_len hd]) (gcells_one h1) fun w' h2 h3 => h w' ⟨by rw [put_all _ _ (by rw [gcells_len hd, hl])] at h2; exact h2, hd⟩ h3
end
end Go.Proofs.Ytakebmpnbdlcoaa
/- Walks: a game's small functions: clock, turn, may, moved, own. -/
set_option linter.unusedSimpArgs false
set_option linter.unusedVariables false
namespace Go.Proofs.Ytakebmpnbdlcoaa
open Go.RowKit
set_option maxRecDepth 100000
theorem elH : El Try.prog 52 27 32 32 := El.mk' (z := .agg #[.int .u8 0, .int .u8 0, .int .u8 0, .int .u8 0, .int .u8 0, .int .u8 0, .int .u8 0, .int .u8 0, .int .u8 0, .int .u8 0, .int .u8 0, .int .u8 0, .int .u8 0, .int .u8 0, .int .u8 0, .int .u8 0, .int .u8 0, .int .u8 0, .int .u8 0, .int .u8 0, .int .u8 0, .int .u8 0, .int .u8 0, .int .u8 0, .int .u8 0, .int .u8 0, .int .u8 0, .int .u8 0, .int .u8 0, .int .u8 0, .int .u8 0, .int .u8 0]) Try.underlying52 (by kernel_rfl) rfl (by decide)
def clockB (n : Int) : Prop := 0 ≤ n ∧ n ≤ 1099511627776
/-- A call that hands back a game. -/
def RGv (w : World) (v : Value) (d : GD) (en : Ending) (w' : World) : Prop := en = .returned (gval v d) ∧ Below w.heap.size w w'
def movedD (d : GD) (now : Int) : GD := { d with moves := d.moves + 1, limit := now + 3 }
def turnD (d : GD) : GD := { d with turn := if d.hi - d.lo = 1 then 3 else 1 }
def overD (d : GD) (won : Bool) : GD := { d with turn := 4, won := won, cl := if won then 200 else 0, ref := if won then 0 else 200 }
set_option maxRecDepth 100000
theorem one_int {k : IntKind} {z : Int} : ∀ u ∈ [Value.int k z], u.oneCell' = true := by intro u hu; simp at hu; subst hu; rfl
theorem one_bool {z : Bool} : ∀ u ∈ [Value.bool z], u.oneCell' = true := by intro u hu; simp at hu; subst hu; rfl
theorem H8_one (hs : List (List UInt8)) : ∀ u ∈ H8 hs, u.oneCell' = true := by
  intro u hu
  obtain ⟨h, _, hu⟩ := List.mem_flatMap.1 hu
  exact B8_one _ _ hu
theorem clone_H (A : Option Addr) (n c : Nat) (xs : List Value) (w : World) (h : Sl w 32 A n xs) (h1 : ∀ u ∈ xs, u.oneCell' = true) (hn : n ≤ 4194304) :
    Calls Try.prog 54 #[.slice A n c] w (RSl w 27 32 xs) := by
  have q : ∀ (W : World) (A : Option Addr), (binOp .eql 52 (.slice A n c) (.slice none 0 0)).run Try.prog W = .ok (.bool A.isNone) W := fun W A => Lib.run_eql_slice_nil W _ _ A n c 0 0 Try.underlying52
  rcases A with _ | ad
  · obtain rfl : n = 0 := by
      rcases Nat.eq_zero_or_pos n with h0 | h0
      · exact h0
      · obtain ⟨_, _, h, _⟩ := h.cells h0
        cases h
    obtain rfl : xs = [] := List.eq_nil_of_length_eq_zero (by simpa using h.len)
    go_enter Try.func54, Try.ntmps54
    go_wp2
    go_ret
    exact RSl.mk Own.nil_ (Below.refl _ _)
  · go_enter Try.func54, Try.ntmps54
    go_wp2_with (first
      | (at_builtin
         refine wpl_app _ _ _ _ elH rfl rfl rfl (Own.made w w.heap.size 27 #[] (Nat.le_refl _) (Nat.zero_le _) (by simp)) rfl (h.alloc _) h1 (by omega) (by omega) (by simp) ?_
         intro A' c' w' g))
    go_ret
    refine RSl.mk (by simpa using g.own) ?_
    exact below_grown ((Below.refl _ _).alloc (Nat.le_refl _) _) g.grow (by simp) (by intro k hk; simp at hk; omega)
/-- A call that hands back a game over transactions of its own. -/
def RGo (w : World) (hs : List (List UInt8)) (n : Nat) (d : GD) (en : Ending) (w' : World) : Prop := ∃ A c, en = .returned (gval (.slice A n c) d) ∧ Sl w' 32 A n (H8 hs) ∧ Below w.heap.size w w' ∧ ∀ b, A.map (·.block) = some b → w.heap.size ≤ b
instance (n : Int) : Decidable (clockB n) := by unfold clockB; infer_instance
/-- what is wrong with a move -/
def mayE (d : GD) (t now : Int) : Int := if ¬ clockB now then 1 else if d.turn = 4 then 18 else if d.turn ≠ t then 17 else if d.limit < now then 18 else 0
end Go.Proofs.Ytakebmpnbdlcoaa
/- Walks: the document's tree: over; the root of leaves. -/
set_option linter.unusedSimpArgs false
set_option linter.unusedVariables false
namespace Go.Proofs.Ytakebmpnbdlcoaa
open Go.RowKit
set_option maxRecDepth 100000
/-- what stands above two sums -/
def overS (a b : List UInt8) : List UInt8 := if a = zero32 ∧ b = zero32 then zero32 else twoS a b
theorem overS_len (a b : List UInt8) : (overS a b).length = 32 := by
  unfold overS
  split
  · rfl
  · exact twoS_len a b
theorem built_zero_ : Try.prog.built 27 [] = some (B8 zero32).toArray := by kernel_rfl
theorem zero_alloc : (#[.int .u8 0, .int .u8 0, .int .u8 0, .int .u8 0, .int .u8 0, .int .u8 0, .int .u8 0, .int .u8 0, .int .u8 0, .int .u8 0, .int .u8 0, .int .u8 0, .int .u8 0, .int .u8 0, .int .u8 0, .int .u8 0, .int .u8 0, .int .u8 0, .int .u8 0, .int .u8 0, .int .u8 0, .int .u8 0, .int .u8 0, .int .u8 0, .int .u8 0, .int .u8 0, .int .u8 0, .int .u8 0, .int .u8 0, .int .u8 0, .int .u8 0, .int .u8 0] : Array Value) = (B8 zero32).toArray := rfl
set_option maxRecDepth 100000 in
set_option maxHeartbeats 1000000 in
theorem refOver_any (a b : List UInt8) (ha : a.length = 32) (hb : b.length = 32) (w : World) :
    Calls Try.prog 48 #[hv a, hv b] w fun e w' => e = .returned (hv (overS a b)) ∧ Below w.heap.size w w' := by
  unfold hv
  obtain ⟨W, HW, hbw, ba, bb, bz⟩ : ∃ W, Hid (W = ((w.alloc (.cells (B8 a).toArray 27)).alloc (.cells (B8 b).toArray 27)).alloc (.cells #[.int .u8 0, .int .u8 0, .int .u8 0, .int .u8 0, .int .u8 0, .int .u8 0, .int .u8 0, .int .u8 0, .int .u8 0, .int .u8 0, .int .u8 0, .int .u8 0, .int .u8 0, .int .u8 0, .int .u8 0, .int .u8 0, .int .u8 0, .int .u8 0, .int .u8 0, .int .u8 0, .int .u8 0, .int .u8 0, .int .u8 0, .int .u8 0, .int .u8 0, .int .u8 0, .int .u8 0, .int .u8 0, .int .u8 0, .int .u8 0, .int .u8 0, .int .u8 0] 27)) ∧ Below w.heap.size w W ∧
      Blk W w.heap.size 27 (B8 a) ∧ Blk W (w.heap.size + 1) 27 (B8 b) ∧ Blk W (w.heap.size + 2) 27 (B8 zero32) := by
    refine ⟨_, rfl, (((Below.refl _ _).alloc (Nat.le_refl _) _).alloc (by simp) _).alloc (by simp; omega) _, ?_, ?_, ?_⟩
    · exact (Blk.new w (B8 a).toArray 27).to (((Below.refl _ _).alloc (Nat.le_refl _) _).alloc (by simp) _)
    · have := (Blk.new (w.alloc (.cells (B8 a).toArray 27)) (B8 b).toArray 27).to ((Below.refl _ _).alloc (Nat.le_refl _) (.cells #[.int .u8 0, .int .u8 0, .int .u8 0, .int .u8 0, .int .u8 0, .int .u8 0, .int .u8 0, .int .u8 0, .int .u8 0, .int .u8 0, .int .u8 0, .int .u8 0, .int .u8 0, .int .u8 0, .int .u8 0, .int .u8 0, .int .u8 0, .int .u8 0, .int .u8 0, .int .u8 0, .int .u8 0, .int .u8 0, .int .u8 0, .int .u8 0, .int .u8 0, .int .u8 0, .int .u8 0, .int .u8 0, .int .u8 0, .int .u8 0, .int .u8 0, .int .u8 0] 27))
      simpa using this
    · have := Blk.new ((w.alloc (.cells (B8 a).toArray 27)).alloc (.cells (B8 b).toArray 27)) #[.int .u8 0, .int .u8 0, .int .u8 0, .int .u8 0, .int .u8 0, .int .u8 0, .int .u8 0, .int .u8 0, .int .u8 0, .int .u8 0, .int .u8 0, .int .u8 0, .int .u8 0, .int .u8 0, .int .u8 0, .int .u8 0, .int .u8 0, .int .u8 0, .int .u8 0, .int .u8 0, .int .u8 0, .int .u8 0, .int .u8 0, .int .u8 0, .int .u8 0, .int .u8 0, .int .u8 0, .int .u8 0, .int .u8 0, .int .u8 0, .int .u8 0, .int .u8 0] 27
      rw [show ((w.alloc (.cells (B8 a).toArray 27)).alloc (.cells (B8 b).toArray 27)).heap.size = w.heap.size + 2 from by simp] at this
      exact this
  have e1 := eq_hash a zero32 ha rfl
  have e2 := eq_hash b zero32 hb rfl
  have HA := Lib.hid ha
  have HB := Lib.hid hb
  clear ha hb
  by_cases h1 : a = zero32
  · rw [decide_eq_true h1] at e1
    by_cases h2 : b = zero32
    · rw [decide_eq_true h2] at e2
      have HO : Hid (overS a b = a) := (by show _ = _; unfold overS; rw [if_pos ⟨h1, h2⟩, h1])
      clear h1 h2
      go_enter Try.func48, Try.ntmps48
      go_upto_region 1 with fail
      refine wp_at HW.out ?_
      clear HW
      go_wp2_with (first
        | (refine wpl_load_fld (by rfl) _ _ rfl w.heap.size 0 rfl (B8 a) _ ba.range Try.underlying27 rfl (info_hash HA.out) ?_)
        | (refine wpl_load_fld (by rfl) _ _ rfl (w.heap.size + 1) 0 rfl (B8 b) _ bb.range Try.underlying27 rfl (info_hash HB.out) ?_)
        | (refine wpl_build (by rfl) _ _ rfl _ built_zero_ ?_)
        | (refine wpl_store_fld (by rfl) _ _ _ rfl (w.heap.size + 2) 0 _ _ (B8 a) rfl _ rfl rfl bz (by rw [B8_len, HA.out]; exact Nat.le_refl _) (info_hash HA.out) (B8_one _) ?_
           intro w1 bz1 bu1
           rw [put_all _ _ (by rw [B8_len, HA.out]; rfl)] at bz1))
      refine bodyPost_ret (v := .agg (B8 (overS a b)).toArray) ?_ rfl ⟨rfl, hbw.trans (below_but bu1 (by omega) hbw.size)⟩
      rw [HO.out]
      exact results_blk Try.results48 rfl bz1 Try.underlying27 rfl (info_hash HA.out)
    · rw [decide_eq_false h2] at e2
      have HO : Hid (overS a b = twoS a b) := (by show _ = _; unfold overS; rw [if_neg (fun h => h2 h.2)])
      clear h1 h2
      go_enter Try.func48, Try.ntmps48
      go_upto_region 1 with fail
      refine wp_at HW.out ?_
      clear HW
      go_wp2_with (first
        | (refine wpl_load_fld (by rfl) _ _ rfl w.heap.size 0 rfl (B8 a) _ ba.range Try.underlying27 rfl (info_hash HA.out) ?_)
        | (refine wpl_load_fld (by rfl) _ _ rfl (w.heap.size + 1) 0 rfl (B8 b) _ bb.range Try.underlying27 rfl (info_hash HB.out) ?_)
        | (refine wpl_build (by rfl) _ _ rfl _ built_zero_ ?_))
      refine (refTwo_any a b HA.out HB.out _).mono ?_
      rintro e w1 ⟨rfl, hb1⟩
      have bz1 := bz.to hb1
      have f1 := hbw.trans (hb1.mono hbw.size)
      unfold hv
      go_wp2_with (first
        | (refine wpl_store_fld (by rfl) _ _ _ rfl (w.heap.size + 2) 0 _ _ (B8 (twoS a b)) rfl _ rfl rfl bz1 (by rw [B8_len, twoS_len]; exact Nat.le_refl _) (info_hash (twoS_len _ _)) (B8_one _) ?_
           intro w2 bz2 bu2
           rw [put_all _ _ (by rw [B8_len, twoS_len]; rfl)] at bz2))
      refine bodyPost_ret (v := .agg (B8 (overS a b)).toArray) ?_ rfl ⟨rfl, f1.trans (below_but bu2 (by omega) f1.size)⟩
      rw [HO.out]
      exact results_blk Try.results48 rfl bz2 Try.underlying27 rfl (info_hash (twoS_len _ _))
  · rw [decide_eq_false h1] at e1
    have HO : Hid (overS a b = twoS a b) := (by show _ = _; unfold overS; rw [if_neg (fun h => h1 h.1)])
    clear h1
    go_enter Try.func48, Try.ntmps48
    go_upto_region 1 with fail
    refine wp_at HW.out ?_
    clear HW
    go_wp2_with (first
      | (refine wpl_load_fld (by rfl) _ _ rfl w.heap.size 0 rfl (B8 a) _ ba.range Try.underlying27 rfl (info_hash HA.out) ?_)
      | (refine wpl_load_fld (by rfl) _ _ rfl (w.heap.size + 1) 0 rfl (B8 b) _ bb.range Try.underlying27 rfl (info_hash HB.out) ?_)
      | (refine wpl_build (by rfl) _ _ rfl _ built_zero_ ?_))
    refine (refTwo_any a b HA.out HB.out _).mono ?_
    rintro e w1 ⟨rfl, hb1⟩
    have bz1 := bz.to hb1
    have f1 := hbw.trans (hb1.mono hbw.size)
    unfold hv
    go_wp2_with (first
      | (refine wpl_store_fld (by rfl) _ _ _ rfl (w.heap.size + 2) 0 _ _ (B8 (twoS a b)) rfl _ rfl rfl bz1 (by rw [B8_len, twoS_len]; exact Nat.le_refl _) (info_hash (twoS_len _ _)) (B8_one _) ?_
         intro w2 bz2 bu2
         rw [put_all _ _ (by rw [B8_len, twoS_len]; rfl)] at bz2))
    refine bodyPost_ret (v := .agg (B8 (overS a b)).toArray) ?_ rfl ⟨rfl, f1.trans (below_but bu2 (by omega) f1.size)⟩
    rw [HO.out]
    exact results_blk Try.results48 rfl bz2 Try.underlying27 rfl (info_hash (twoS_len _ _))
end Go.Proofs.Ytakebmpnbdlcoaa
/- The walk of capstanlaw12.Hashes: some sums, unlike ones. -/
set_option linter.unusedSimpArgs false
set_option linter.unusedVariables false
namespace Go.Proofs.Ytakebmpnbdlcoaa
open Go.RowKit
set_option maxRecDepth 100000
theorem fold_fill' (vs : List Value) : ∀ (k : Nat) (cs : Array Value), k + vs.length ≤ cs.size → (List.foldl (fun (cs : Array Value) (x : Value × Nat) => cs.setIfInBounds x.2 x.1) cs (vs.zipIdx k)).toList = cs.toList.take k ++ vs ++ cs.toList.drop (k + vs.length) := by
  induction vs with
  | nil => intro k cs h; simp
  | cons v vs ih =>
    intro k cs h
    simp only [List.zipIdx_cons, List.foldl_cons]
    rw [ih (k + 1) _ (by simp at h ⊢; omega)]
    have hk : k < cs.toList.length := by simp at h ⊢; omega
    simp only [Array.toList_setIfInBounds]
    rw [List.take_set, List.drop_set, if_pos (by omega)]
    rw [List.take_add_one, List.getElem?_eq_getElem hk]
    have e2 : (List.take k cs.toList).length = k := by rw [List.length_take]; omega
    rw [List.set_append_right _ _ (by rw [e2]; exact Nat.le_refl _), e2]
    simp only [Nat.sub_self, Option.toList_some, List.set_cons_zero, List.append_assoc, List.cons_append, List.nil_append, List.length_cons]
    rw [show k + 1 + vs.length = k + (vs.length + 1) from by omega]
theorem fold_sum' (sm : List UInt8) (h : sm.length = 32) : List.foldl (fun (cs : Array Value) (x : Value × Nat) => cs.setIfInBounds x.2 x.1) #[.int .u8 0, .int .u8 0, .int .u8 0, .int .u8 0, .int .u8 0, .int .u8 0, .int .u8 0, .int .u8 0, .int .u8 0, .int .u8 0, .int .u8 0, .int .u8 0, .int .u8 0, .int .u8 0, .int .u8 0, .int .u8 0, .int .u8 0, .int .u8 0, .int .u8 0, .int .u8 0, .int .u8 0, .int .u8 0, .int .u8 0, .int .u8 0, .int .u8 0, .int .u8 0, .int .u8 0, .int .u8 0, .int .u8 0, .int .u8 0, .int .u8 0, .int .u8 0] ((B8 sm).zipIdx) = (B8 sm).toArray := by
  apply Array.toList_inj.1
  rw [fold_fill' (B8 sm) 0 _ (by rw [B8_len, h]; decide), B8_len, h]
  simp
theorem H8_snoc (hs : List (List UInt8)) (h : List UInt8) : H8 (hs ++ [h]) = H8 hs ++ B8 h := by simp [H8]
/-- the sum of a number's two lowest bytes -/
def hashI (i : Nat) : List UInt8 := shaS [UInt8.ofNat (i % 256), UInt8.ofNat (i / 256 % 256)]
def hashL (n : Nat) : List (List UInt8) := (List.range n).map hashI
theorem hashI_len (i : Nat) : (hashI i).length = 32 := shaS_len _
theorem hashL_len (n : Nat) : (hashL n).length = n := by simp [hashL]
theorem hashL_snoc (n : Nat) : hashL (n + 1) = hashL n ++ [hashI n] := by simp [hashL, List.range_succ]
theorem H8_len (hs : List (List UInt8)) (h : ∀ x ∈ hs, x.length = 32) : (H8 hs).length = 32 * hs.length := by
  induction hs with
  | nil => rfl
  | cons a hs ih =>
    have := ih (fun x hx => h x (by simp [hx]))
    have h1 := h a (by simp)
    simp only [H8, List.flatMap_cons, List.length_append, B8_len, List.length_cons] at this ⊢
    omega
theorem hashL_all (n : Nat) : ∀ x ∈ hashL n, x.length = 32 := by
  intro x hx
  obtain ⟨i, _, rfl⟩ := List.mem_map.1 hx
  exact hashI_len i
set_option maxRecDepth 100000 in
set_option maxHeartbeats 1000000 in
theorem hashes_any (n : Nat) (w : World) (hn : n ≤ 4194304) :
    Calls Try.prog 39 #[.int .i64 (n : Int)] w fun e w' => ∃ A c, e = .returned (.slice A n c) ∧ Own w' w.heap.size 27 32 A n c (H8 (hashL n)) ∧ Below w.heap.size w w' := by
  go_enter Try.func39, Try.ntmps39
  go_wp2_with fail
  go_loopw [3, 4] (fun l i wr => ∃ (k : Nat) (A : Option Addr) (c : Nat), i = .int .i64 k ∧ k ≤ n ∧ l = .slice A k c ∧ Own wr w.heap.size 27 32 A k c (H8 (hashL k)) ∧ Below w.heap.size w wr) (fun _ i _ => n - (intOf i).toNat)
  case atStart => exact ⟨0, none, 0, rfl, Nat.zero_le _, rfl, Own.nil_, Below.refl _ _⟩
  case round =>
    obtain ⟨k, A, c, rfl, hk, rfl, ho, hb⟩ := hrel
    by_cases hlt : k < n
    · go_wp2_with fail
      have hb8 : [Value.int .u8 ((k : Int) % 256), Value.int .u8 ((k : Int) / 256 % 256)] = B8 [UInt8.ofNat (k % 256), UInt8.ofNat (k / 256 % 256)] := by
        simp [B8, b8]
      have sB : Sl (wr.alloc (.cells #[.int .u8 ((k : Int) % 256), .int .u8 ((k : Int) / 256 % 256)] 5)) 1 (some ⟨wr.heap.size, 0, none⟩) 2 (B8 [UInt8.ofNat (k % 256), UInt8.ofNat (k / 256 % 256)]) := by
        rw [← hb8]
        exact Sl.new wr #[.int .u8 ((k : Int) % 256), .int .u8 ((k : Int) / 256 % 256)] _ _ 2 rfl
      clear hb8
      have ho1 := ho.alloc (.cells #[.int .u8 ((k : Int) % 256), .int .u8 ((k : Int) / 256 % 256)] 5)
      have hb1 : Below w.heap.size w (wr.alloc (.cells #[.int .u8 ((k : Int) % 256), .int .u8 ((k : Int) / 256 % 256)] 5)) := hb.alloc hb.size _
      refine (refSum_any (some ⟨wr.heap.size, 0, none⟩) 2 2 _ _ sB (by omega)).mono ?_
      rintro e w2 ⟨rfl, hb2⟩
      have ho2 := ho1.to hb2
      have hf2 := hb1.trans (hb2.mono hb1.size)
      have hH : shaS [UInt8.ofNat (k % 256), UInt8.ofNat (k / 256 % 256)] = hashI k := rfl
      rw [hH]
      clear sB ho1 hb1 hb2 hH ho hb
      have HL := Lib.hid (hashI_len k)
      unfold hv
      have hs := hf2.size
      have hbl : (B8 (hashI k)).length = 32 := by rw [B8_len, HL.out]
      go_wp2_with (first
        | (at_builtin
           rw [fold_sum' (hashI k) HL.out]
           refine wpl_push _ _ _ elH rfl rfl rfl ho2 rfl (by rw [List.size_toArray, B8_len, HL.out]) (by intro u hu; exact B8_one _ u (by simpa using hu)) (by omega) (by omega) hs ?_
           intro A3 c3 w3 g3 h3 _))
      have o3 : Own w3 w.heap.size 27 32 A3 (k + 1) c3 (H8 (hashL (k + 1))) := by
        have := g3.own
        rw [hashL_snoc, H8_snoc]
        exact this
      have f3 := hf2.trans h3
      clear g3 h3 ho2 hf2 hs hbl
      go_wp2_with fail
      go_roundw
      case rel => exact ⟨k + 1, A3, c3, by go_num, by omega, rfl, o3, f3⟩
      case measure => simp [intOf]; omega
    · obtain rfl : n = k := by omega
      go_wp2_with fail
      go_ret
      exact ⟨A, c, rfl, ho, hb⟩
end Go.Proofs.Ytakebmpnbdlcoaa
/- Structs held against each other, field by field. -/
set_option linter.unusedSimpArgs false
set_option linter.unusedVariables false
namespace Go.Proofs.Ytakebmpnbdlcoaa
open Go.RowKit
set_option maxRecDepth 100000
theorem wpC_load_f {P : Program} {ops : Array Oper} {Q : Exit → Act → World → Prop} {R : World → World → Prop} {i : Nat} {rest : List (Nat × Bool)} {o : Oper} {a : Act} {w : World} (hrefl : ∀ w, R w w) (ho : nth ops.toList i = some o) (hw : Region.wanted o (yielded ops a.tmps) = true) (ty : TypeId) (x : Operand) (hop : o.op = .load ty x)
    (b off : Nat) (hx : a.eval x = .pointer (some ⟨b, off, none⟩)) (cs : List Value) (d : TypeDesc) (hc : w.rangeAt b off cs) (hu : P.underlying ty = some d) (hd : d.isRow = true) (hi : (P.info? ty).map (·.size) = some cs.length)
    (h : wpC P ops Q R rest (a.put o.dst (.agg cs.toArray)) w) : wpC P ops Q R ((i, false) :: rest) a w := by
  unfold wpC wpOp
  simp only [nth_ops ho, hw, if_true]
  refine .inl ?_
  refine wp_load_mid ty x hop b off hx cs d hc hu hd hi ?_
  exact ⟨hrefl w, h⟩
section
variable {P : Program}
theorem run_part_row {t : TypeId} {ds : TypeDesc} {n : Nat} (hu : P.underlying t = some ds) (hd : ds.isRow = true) (hi : (P.info? t).map (·.size) = some n) (cs : Array Value) (off : Nat) (w : World) :
    (part t cs off).run P w = .ok (.agg (cs.extract off (off + n))) w := by
  cases hq : P.info? t with
  | none => simp [hq] at hi
  | some i =>
    have hs : i.size = n := by simpa [hq] using hi
    have hagg : (isAgg t).run P w = .ok true w := by
      unfold isAgg
      rw [Sem.run_bind, run_underlying hu w]
      cases ds <;> simp_all
    simp [part, Sem.run_bind, hagg, sizeOf, typeInfo, hq, hs]
theorem eqFields_step {d : Nat} {xs ys : Array Value} {f : Field} {fs : List Field} {w : World} {a b : Value} {r : Bool} (hn : f.name ≠ "_") (ha : (part f.type xs f.offset).run P w = .ok a w) (hb : (part f.type ys f.offset).run P w = .ok b w)
    (hq : (Op.equalIn d f.type a b).run P w = .ok r w) : (Op.eqFields d xs ys (f :: fs)).run P w = if r then (Op.eqFields d xs ys fs).run P w else .ok false w := by
  simp only [Op.eqFields, hn, ne_eq, not_false_eq_true, if_true, Sem.run_bind, ha, hb, hq, Result.andThen_ok]
  cases r <;> simp
theorem eqFields_nil {d : Nat} {xs ys : Array Value} {w : World} : (Op.eqFields d xs ys []).run P w = .ok true w := by simp [Op.eqFields]
theorem ext_mid (a b c : List Value) : (a ++ b ++ c).toArray.extract a.length (a.length + b.length) = b.toArray := by
  simp [List.extract_toArray, List.extract]
end
end Go.Proofs.Ytakebmpnbdlcoaa
