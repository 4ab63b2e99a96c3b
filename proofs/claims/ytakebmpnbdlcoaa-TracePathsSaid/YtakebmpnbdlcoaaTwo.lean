/- Walks: sha.Two, capstanlaw2.known. -/
import Derived.Test.YtakebmpnbdlcoaaSum
import Derived.Test.YtakebmpnbdlcoaaCat
import Derived.Test.YtakebmpnbdlcoaaHex
import Derived.Test.YtakebmpnbdlcoaaShaAbc
import Derived.Deep.Cut
import Derived.Lib.SlBytesConst
set_option linter.unusedSimpArgs false
set_option linter.unusedVariables false
namespace Go.Proofs.Ytakebmpnbdlcoaa
open Go.RowKit
set_option maxRecDepth 100000
/-- three slices -/
theorem concat3_B (A1 A2 A3 : Option Addr) (n1 n2 n3 c1 c2 c3 : Nat) (b1 b2 b3 : List UInt8) (t : TypeId) (fr : Nat × Nat) (w : World) (h1 : Sl w 1 A1 n1 (B8 b1)) (h2 : Sl w 1 A2 n2 (B8 b2)) (h3 : Sl w 1 A3 n3 (B8 b3)) (hl : n1 + n2 + n3 ≤ 1099511627776) (N : Nat) (hN : N = w.heap.size) :
    Calls Try.prog 65 #[.slice (some ⟨N, 0, none⟩) 3 3] (w.alloc (.cells #[.slice A1 n1 c1, .slice A2 n2 c2, .slice A3 n3 c3] t fr)) fun e w' =>
      ∃ A n c, e = .returned (.slice A n c) ∧ Own w' w.heap.size 5 1 A n c (B8 (b1 ++ b2 ++ b3)) ∧ Below (w.heap.size + 1) (w.alloc (.cells #[.slice A1 n1 c1, .slice A2 n2 c2, .slice A3 n3 c3] t fr)) w' := by
  subst hN
  have e1 := h1.len8
  have e2 := h2.len8
  have e3 := h3.len8
  refine (concat_B [(A1, n1, c1, b1), (A2, n2, c2, b2), (A3, n3, c3, b3)] w.heap.size _ ?_ (by simp) (by simp) (by simp [flat]; omega)).mono ?_
  · intro k x hx
    match k, hx with
    | 0, hx =>
      simp only [List.getElem?_cons_zero, Option.some.injEq] at hx
      subst hx
      exact ⟨by rw [cell_of_row _ w.heap.size 0 _ t fr (heap_alloc_new w _)]; rfl, h1.alloc _⟩
    | 1, hx =>
      simp only [List.getElem?_cons_succ, List.getElem?_cons_zero, Option.some.injEq] at hx
      subst hx
      exact ⟨by rw [cell_of_row _ w.heap.size 1 _ t fr (heap_alloc_new w _)]; rfl, h2.alloc _⟩
    | 2, hx =>
      simp only [List.getElem?_cons_succ, List.getElem?_cons_zero, Option.some.injEq] at hx
      subst hx
      exact ⟨by rw [cell_of_row _ w.heap.size 2 _ t fr (heap_alloc_new w _)]; rfl, h3.alloc _⟩
    | k + 3, hx => simp at hx
  · rintro e w' ⟨A, n, c, rfl, ho, hb⟩
    refine ⟨A, n, c, rfl, (by simpa [flat] using ho.mono (B' := w.heap.size) (by simp)), ?_⟩
    exact hb.mono (by simp)
set_option maxHeartbeats 1000000 in
theorem two_any (a b : List UInt8) (ha : a.length = 32) (hb : b.length = 32) (w : World) :
    Calls Try.prog 57 #[hv a, hv b] w fun e w' => e = .returned (hv (twoS a b)) ∧ Below w.heap.size w w' := by
  unfold hv
  obtain ⟨W, hW⟩ : ∃ W, W = ((w.alloc (.cells (B8 a).toArray 27)).alloc (.cells (B8 b).toArray 27)).alloc (.cells #[.int .u8 0, .int .u8 0, .int .u8 0, .int .u8 0, .int .u8 0, .int .u8 0, .int .u8 0, .int .u8 0, .int .u8 0, .int .u8 0, .int .u8 0, .int .u8 0, .int .u8 0, .int .u8 0, .int .u8 0, .int .u8 0, .int .u8 0, .int .u8 0, .int .u8 0, .int .u8 0, .int .u8 0, .int .u8 0, .int .u8 0, .int .u8 0, .int .u8 0, .int .u8 0, .int .u8 0, .int .u8 0, .int .u8 0, .int .u8 0, .int .u8 0, .int .u8 0] 27) := ⟨_, rfl⟩
  have hbw : Below w.heap.size w W := by
    subst hW
    exact (((Below.refl _ _).alloc (Nat.le_refl _) _).alloc (by simp) _).alloc (by simp; omega) _
  have ba : Blk W w.heap.size 27 (B8 a) := by
    subst hW
    exact (Blk.new w (B8 a).toArray 27).to (((Below.refl _ _).alloc (Nat.le_refl _) _).alloc (by simp) _)
  have bb : Blk W (w.heap.size + 1) 27 (B8 b) := by
    subst hW
    have := (Blk.new (w.alloc (.cells (B8 a).toArray 27)) (B8 b).toArray 27).to ((Below.refl _ _).alloc (Nat.le_refl _) (.cells #[.int .u8 0, .int .u8 0, .int .u8 0, .int .u8 0, .int .u8 0, .int .u8 0, .int .u8 0, .int .u8 0, .int .u8 0, .int .u8 0, .int .u8 0, .int .u8 0, .int .u8 0, .int .u8 0, .int .u8 0, .int .u8 0, .int .u8 0, .int .u8 0, .int .u8 0, .int .u8 0, .int .u8 0, .int .u8 0, .int .u8 0, .int .u8 0, .int .u8 0, .int .u8 0, .int .u8 0, .int .u8 0, .int .u8 0, .int .u8 0, .int .u8 0, .int .u8 0] 27))
    simpa using this
  have bz : Blk W (w.heap.size + 2) 27 (B8 (List.replicate 32 0)) := by
    subst hW
    have := Blk.new ((w.alloc (.cells (B8 a).toArray 27)).alloc (.cells (B8 b).toArray 27)) #[.int .u8 0, .int .u8 0, .int .u8 0, .int .u8 0, .int .u8 0, .int .u8 0, .int .u8 0, .int .u8 0, .int .u8 0, .int .u8 0, .int .u8 0, .int .u8 0, .int .u8 0, .int .u8 0, .int .u8 0, .int .u8 0, .int .u8 0, .int .u8 0, .int .u8 0, .int .u8 0, .int .u8 0, .int .u8 0, .int .u8 0, .int .u8 0, .int .u8 0, .int .u8 0, .int .u8 0, .int .u8 0, .int .u8 0, .int .u8 0, .int .u8 0, .int .u8 0] 27
    rw [show ((w.alloc (.cells (B8 a).toArray 27)).alloc (.cells (B8 b).toArray 27)).heap.size = w.heap.size + 2 from by simp] at this
    exact this
  have HW := Lib.hid hW
  have HA := Lib.hid ha
  have HB := Lib.hid hb
  clear hW ha hb
  go_enter Try.func57, Try.ntmps57
  go_upto_region 1 with fail
  refine wp_at HW.out ?_
  clear HW
  generalize hN : w.heap.size = N at *
  have HN := Lib.hid hN
  clear hN
  have hzl := bz.lt
  refine wp_region_C [(1, true), (2, true), (0, false), (3, false), (4, false), (5, false), (6, false)] (RBut (some (N + 2))) (by kernel_rfl) (by kernel_rfl) (by kernel_rfl) (by decide) (RBut.refl_ _) (RBut.trans_ _) (by intro d v c a w h; cases d <;> exact h) ?_
  have ba' : Blk W.drew N 27 (B8 a) := ba
  have bb' : Blk W.drew (N + 1) 27 (B8 b) := bb
  have bz' : Blk W.drew (N + 2) 27 (B8 (List.replicate 32 0)) := bz
  have hbw' : Below N w W.drew := hbw.drew
  clear ba bb bz hbw hzl
  generalize W.drew = V at *
  repeat (first | (refine wpC_quiet (v := ?_) rfl (by rfl) ?_ ?_; rotate_left; (· (intro w' hw'; go_simp; try with_reducible rfl)); simp only [Act.put, List.setIfInBounds_toArray, List.set_cons_zero, List.set_cons_succ]) | (refine wpC_val (v := ?_) (RBut.refl_ _) rfl (by rfl) ?_ ?_; rotate_left; (· (go_simp; try with_reducible rfl)); simp only [Act.put, List.setIfInBounds_toArray, List.set_cons_zero, List.set_cons_succ]) | (refine wpC_skip rfl (by rfl) ?_; simp only [Act.put, List.setIfInBounds_toArray, List.set_cons_zero, List.set_cons_succ]) | (refine wpC_skip' (RBut.refl_ _) rfl (by rfl) ?_; simp only [Act.put, List.setIfInBounds_toArray, List.set_cons_zero, List.set_cons_succ]))
  (refine wpC_loud rfl (by rfl) ?_; intro K hK; go_simp)
  have h0 : Below V.heap.size V (V.alloc (.cells #[.int .u8 1] 5)) := (Below.refl _ _).alloc (Nat.le_refl _) _
  (refine hK.out _ _ (RBut.of_below h0) ?_; clear hK K; try simp only [Act.put, List.setIfInBounds_toArray, List.set_cons_zero, List.set_cons_succ])
  have s1 : Sl (V.alloc (.cells #[.int .u8 1] 5)) 1 (some ⟨V.heap.size, 0, none⟩) 1 (B8 [1]) := Sl.new (size := 1) V #[.int .u8 1] 5 (0, 0) 1 rfl
  have s2 := ((ba'.to h0).sl (size := 1) (n := 32) (by rw [B8_len, HA.out]))
  have s3 := ((bb'.to h0).sl (size := 1) (n := 32) (by rw [B8_len, HB.out]))
  have hq : N + 2 < V.heap.size := bz'.lt
  have bz1 := bz'.to h0
  have hb1 := hbw'.trans (h0.mono (by omega))
  generalize hV1 : V.alloc (.cells #[.int .u8 1] 5) = V1 at *
  have hq1 : N + 2 < V1.heap.size := bz1.lt
  have HV1 := Lib.hid hV1
  clear hV1 h0 hbw' ba' bb' bz'
  (refine wpC_loud rfl (by rfl) ?_; intro K hK; go_simp)
  have h2 : Below V1.heap.size V1 (V1.alloc (.cells #[.slice (some ⟨V.heap.size, 0, none⟩) 1 1, .slice (some ⟨N, 0, none⟩) 32 32, .slice (some ⟨N + 1, 0, none⟩) 32 32] 67)) := (Below.refl _ _).alloc (Nat.le_refl _) _
  (refine hK.out _ _ (RBut.of_below h2) ?_; clear hK K; try simp only [Act.put, List.setIfInBounds_toArray, List.set_cons_zero, List.set_cons_succ])
  (refine wpC_loud rfl (by rfl) ?_; intro K hK; go_simp)
  refine (concat3_B (some ⟨V.heap.size, 0, none⟩) (some ⟨N, 0, none⟩) (some ⟨N + 1, 0, none⟩) 1 32 32 1 32 32 [1] a b _ _ V1 s1 s2 s3 (by omega) _ rfl).mono ?_
  rintro e w3 ⟨A3, n3, c3, rfl, o3, h3⟩
  have h23 : Below V1.heap.size V1 w3 := h2.trans (h3.mono (by omega))
  (refine hK.out _ _ (RBut.of_below (by have := h3; simpa using this)) ?_; clear hK K; try simp only [Act.put, List.setIfInBounds_toArray, List.set_cons_zero, List.set_cons_succ])
  have bz3 := bz1.to h23
  have hb3 := hb1.trans (h23.mono (by omega))
  have l3 := o3.len8
  have s3' := o3.sl
  have hq3 : N + 2 < w3.heap.size := bz3.lt
  have l3' : n3 ≤ 1099511627776 := by rw [l3]; simp [HA.out, HB.out]
  clear h2 h3 h23 s1 s2 s3 l3 o3 bz1 hb1
  (refine wpC_loud rfl (by rfl) ?_; intro K hK; go_simp)
  refine (sum_any A3 n3 c3 ([1] ++ a ++ b) w3 s3' l3').mono ?_
  rintro e w4 ⟨rfl, h4⟩
  rw [show shaS ([1] ++ a ++ b) = twoS a b from rfl]
  unfold hv
  have hl := twoS_len a b
  obtain ⟨sm, hsm⟩ : ∃ sm, sm = twoS a b := ⟨_, rfl⟩
  rw [← hsm] at hl ⊢
  have HS := Lib.hid hl
  have HT := Lib.hid hsm.symm
  clear hl hsm
  (refine hK.out _ _ (RBut.of_below h4) ?_; clear hK K; try simp only [Act.put, List.setIfInBounds_toArray, List.set_cons_zero, List.set_cons_succ])
  have hb4 := hb3.trans (h4.mono (by omega))
  refine wpC_store_blk rfl (by rfl) _ _ _ rfl (N + 2) 27 (B8 (List.replicate 32 0)) (B8 sm) rfl rfl (bz3.to h4) (by rw [B8_len, B8_len, HS.out]; rfl) (info_hash HS.out) (B8_one _) (fun w' h => h) ?_
  intro w9 b9 hb9
  simp only [Act.put, List.setIfInBounds_toArray, List.set_cons_zero, List.set_cons_succ]
  refine wpC_nil ?_
  have h4s := h4.size
  go_wp2_with fail
  exact bodyPost_ret (v := hv sm) (results_blk Try.results57 rfl b9 Try.underlying27 rfl (info_hash HS.out)) rfl ⟨by rw [HT.out]; rfl, by
    rw [HN.out]
    exact hb4.trans (below_but hb9 (by omega) (by omega))⟩
theorem str_toList (l : List UInt8) : (str l).toList = l := by
  rw [ByteArray.toList_eq]
  rfl
theorem str_take (l : List UInt8) (k : Nat) : (str l).extract 0 k = str (l.take k) := by
  apply ByteArray.ext
  simp [str, ByteArray.data_extract]
end Go.Proofs.Ytakebmpnbdlcoaa
