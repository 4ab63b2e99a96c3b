/- The walk of capstanlaw2.ShaSums. -/
import Derived.Test.YtaaiembhdfgkjaaWTwo
import Derived.Test.YtaaiembhdfgkjaaRefHex
namespace Go.Proofs.Ytaaiembhdfgkjaa
open Go.RowKit
theorem str_eq (l : List UInt8) : ((str l).toList == (str l).toList) = true := by simp
set_option maxHeartbeats 2000000 in
theorem shaSums_walk (w : World) (A : Option Addr) (n c : Nat) (bs : List UInt8) (hnc : n ≤ c) (hc : c ≤ maxLen) (sl : Sl w 1 A n (B8 bs)) (a : List UInt8) (ha : a.length = 32) (b : List UInt8) (hb : b.length = 32) :
    Calls Try.prog 7 #[.slice A n c, hv a, hv b] w (RB true w) := by
  clear hnc hc
  unfold hv
  obtain ⟨W, hW⟩ : ∃ W, W = (w.alloc (.cells (B8 a).toArray 26)).alloc (.cells (B8 b).toArray 26) := ⟨_, rfl⟩
  have hbw : Below w.heap.size w W := by
    subst hW
    exact ((Below.refl _ _).alloc (Nat.le_refl _) _).alloc (by simp) _
  have ba : Blk W w.heap.size 26 (B8 a) := by
    subst hW
    exact (Blk.new w (B8 a).toArray 26).to ((Below.refl _ _).alloc (Nat.le_refl _) _)
  have bb : Blk W (w.heap.size + 1) 26 (B8 b) := by
    subst hW
    have := Blk.new (w.alloc (.cells (B8 a).toArray 26)) (B8 b).toArray 26
    simpa using this
  have sW := sl.to hbw
  have HW := Lib.hid hW
  have HA := Lib.hid ha
  have HB := Lib.hid hb
  clear hW ha hb sl
  go_enter Try.func7, Try.ntmps7
  go_upto_region 1 with fail
  refine wp_at HW.out ?_
  clear HW
  generalize hN : w.heap.size = N at *
  have HN := Lib.hid hN
  clear hN
  have hzl := bb.lt
  go_wp2_with fail
  refine (shaKnown_any W).mono ?_
  rintro e w1 ⟨rfl, h1⟩
  have f1 := hbw.trans (h1.mono (by omega))
  by_cases h2000 : (2000 : Int) < n
  · go_wp2_with fail
    go_ret
    exact ⟨rfl, by rw [HN.out]; exact f1⟩
  · have hn : n ≤ 2000 := by omega
    have ba1 := ba.to h1
    have bb1 := bb.to h1
    have s1 := sW.to h1
    have hz1 := bb1.lt
    clear ba bb h1 hzl hbw sW
    go_wp2_with fail
    refine wp_region_C [(0, true), (2, true), (1, false), (3, false), (4, false), (5, false), (6, true), (7, true), (9, true), (10, true), (8, false), (11, false), (12, false), (13, false), (14, false), (15, true), (17, true), (16, false), (18, false), (19, false), (20, false), (21, false)] RBel (by kernel_rfl) (by kernel_rfl) (by kernel_rfl) (by decide) RBel.refl_ RBel.trans_ (by intro d v c a w h; cases d <;> exact h) ?_
    have ba2 : Blk w1.drew N 26 (B8 a) := ba1
    have bb2 : Blk w1.drew (N + 1) 26 (B8 b) := bb1
    have s2 := s1.drew
    have f2 : Below N w w1.drew := f1.drew
    clear ba1 bb1 s1 f1
    generalize w1.drew = w2 at *
    repeat (first | (refine wpC_quiet (v := ?_) rfl (by rfl) ?_ ?_; rotate_left; (· (intro w' hw'; go_simp; try with_reducible rfl)); simp only [Act.put, List.setIfInBounds_toArray, List.set_cons_zero, List.set_cons_succ]) | (refine wpC_val (v := ?_) (RBel.refl_) rfl (by rfl) ?_ ?_; rotate_left; (· (go_simp; try with_reducible rfl)); simp only [Act.put, List.setIfInBounds_toArray, List.set_cons_zero, List.set_cons_succ]) | (refine wpC_skip rfl (by rfl) ?_; simp only [Act.put, List.setIfInBounds_toArray, List.set_cons_zero, List.set_cons_succ]) | (refine wpC_skip' (RBel.refl_) rfl (by rfl) ?_; simp only [Act.put, List.setIfInBounds_toArray, List.set_cons_zero, List.set_cons_succ]))
    (refine wpC_loud rfl (by rfl) ?_; intro K hK; go_simp)
    refine (sum_any A n c bs w2 s2 (by omega)).mono ?_
    rintro e w3 ⟨rfl, h3⟩
    unfold hv
    (refine hK.out _ _ (h3) ?_; clear hK K; try simp only [Act.put, List.setIfInBounds_toArray, List.set_cons_zero, List.set_cons_succ])
    have hl2 := bb2.lt
    have f3 := f2.trans (h3.mono (by omega))
    (refine wpC_loud rfl (by rfl) ?_; intro K hK; go_simp)
    refine (refSum_any A n c bs w3 (s2.to h3) (by omega)).mono ?_
    rintro e w4 ⟨rfl, h4⟩
    unfold hv
    (refine hK.out _ _ (h4) ?_; clear hK K; try simp only [Act.put, List.setIfInBounds_toArray, List.set_cons_zero, List.set_cons_succ])
    have f4 := f3.trans (h4.mono (by have := h3.size; omega))
    have eq1 := eq_self (shaS bs) (shaS_len _)
    have ba4 := (ba2.to h3).to h4
    have bb4 := (bb2.to h3).to h4
    have hl4 := bb4.lt
    clear ba2 bb2 s2
    repeat (first | (refine wpC_quiet (v := ?_) rfl (by rfl) ?_ ?_; rotate_left; (· (intro w' hw'; go_simp; try with_reducible rfl)); simp only [Act.put, List.setIfInBounds_toArray, List.set_cons_zero, List.set_cons_succ]) | (refine wpC_val (v := ?_) (RBel.refl_) rfl (by rfl) ?_ ?_; rotate_left; (· (go_simp; try with_reducible rfl)); simp only [Act.put, List.setIfInBounds_toArray, List.set_cons_zero, List.set_cons_succ]) | (refine wpC_skip rfl (by rfl) ?_; simp only [Act.put, List.setIfInBounds_toArray, List.set_cons_zero, List.set_cons_succ]) | (refine wpC_skip' (RBel.refl_) rfl (by rfl) ?_; simp only [Act.put, List.setIfInBounds_toArray, List.set_cons_zero, List.set_cons_succ]))
    clear eq1
    refine wpC_load rfl (by rfl) _ _ rfl N 0 rfl (B8 a) _ (fun w' hw' => (ba4.to hw').range) Try.underlying26 rfl (info_hash HA.out) ?_
    simp only [Act.put, List.setIfInBounds_toArray, List.set_cons_zero, List.set_cons_succ]
    refine wpC_load rfl (by rfl) _ _ rfl (N + 1) 0 rfl (B8 b) _ (fun w' hw' => (bb4.to hw').range) Try.underlying26 rfl (info_hash HB.out) ?_
    simp only [Act.put, List.setIfInBounds_toArray, List.set_cons_zero, List.set_cons_succ]
    refine wpC_load rfl (by rfl) _ _ rfl N 0 rfl (B8 a) _ (fun w' hw' => (ba4.to hw').range) Try.underlying26 rfl (info_hash HA.out) ?_
    simp only [Act.put, List.setIfInBounds_toArray, List.set_cons_zero, List.set_cons_succ]
    refine wpC_load rfl (by rfl) _ _ rfl (N + 1) 0 rfl (B8 b) _ (fun w' hw' => (bb4.to hw').range) Try.underlying26 rfl (info_hash HB.out) ?_
    simp only [Act.put, List.setIfInBounds_toArray, List.set_cons_zero, List.set_cons_succ]
    (refine wpC_loud rfl (by rfl) ?_; intro K hK; go_simp)
    refine (two_any a b HA.out HB.out w4).mono ?_
    rintro e w5 ⟨rfl, h5⟩
    unfold hv
    (refine hK.out _ _ (h5) ?_; clear hK K; try simp only [Act.put, List.setIfInBounds_toArray, List.set_cons_zero, List.set_cons_succ])
    have f5 := f4.trans (h5.mono (by omega))
    (refine wpC_loud rfl (by rfl) ?_; intro K hK; go_simp)
    refine (refTwo_any a b HA.out HB.out w5).mono ?_
    rintro e w6 ⟨rfl, h6⟩
    unfold hv
    (refine hK.out _ _ (h6) ?_; clear hK K; try simp only [Act.put, List.setIfInBounds_toArray, List.set_cons_zero, List.set_cons_succ])
    have f6 := f5.trans (h6.mono (by have := h5.size; omega))
    have eq2 := eq_self (twoS a b) (twoS_len a b)
    have ba6 := (ba4.to h5).to h6
    have hl6 := ba6.lt
    repeat (first | (refine wpC_quiet (v := ?_) rfl (by rfl) ?_ ?_; rotate_left; (· (intro w' hw'; go_simp; try with_reducible rfl)); simp only [Act.put, List.setIfInBounds_toArray, List.set_cons_zero, List.set_cons_succ]) | (refine wpC_val (v := ?_) (RBel.refl_) rfl (by rfl) ?_ ?_; rotate_left; (· (go_simp; try with_reducible rfl)); simp only [Act.put, List.setIfInBounds_toArray, List.set_cons_zero, List.set_cons_succ]) | (refine wpC_skip rfl (by rfl) ?_; simp only [Act.put, List.setIfInBounds_toArray, List.set_cons_zero, List.set_cons_succ]) | (refine wpC_skip' (RBel.refl_) rfl (by rfl) ?_; simp only [Act.put, List.setIfInBounds_toArray, List.set_cons_zero, List.set_cons_succ]))
    clear eq2
    refine wpC_load rfl (by rfl) _ _ rfl N 0 rfl (B8 a) _ (fun w' hw' => (ba6.to hw').range) Try.underlying26 rfl (info_hash HA.out) ?_
    simp only [Act.put, List.setIfInBounds_toArray, List.set_cons_zero, List.set_cons_succ]
    refine wpC_load rfl (by rfl) _ _ rfl N 0 rfl (B8 a) _ (fun w' hw' => (ba6.to hw').range) Try.underlying26 rfl (info_hash HA.out) ?_
    simp only [Act.put, List.setIfInBounds_toArray, List.set_cons_zero, List.set_cons_succ]
    (refine wpC_loud rfl (by rfl) ?_; intro K hK; go_simp)
    refine (hex_any a HA.out w6).mono ?_
    rintro e w7 ⟨rfl, h7⟩
    (refine hK.out _ _ (h7) ?_; clear hK K; try simp only [Act.put, List.setIfInBounds_toArray, List.set_cons_zero, List.set_cons_succ])
    have f7 := f6.trans (h7.mono (by omega))
    (refine wpC_loud rfl (by rfl) ?_; intro K hK; go_simp)
    refine (refHex_any a HA.out w7).mono ?_
    rintro e w8 ⟨rfl, h8⟩
    (refine hK.out _ _ (h8) ?_; clear hK K; try simp only [Act.put, List.setIfInBounds_toArray, List.set_cons_zero, List.set_cons_succ])
    have f8 := f7.trans (h8.mono (by have := h7.size; omega))
    have se := str_eq (hexS a)
    repeat (first | (refine wpC_quiet (v := ?_) rfl (by rfl) ?_ ?_; rotate_left; (· (intro w' hw'; go_simp; try with_reducible rfl)); simp only [Act.put, List.setIfInBounds_toArray, List.set_cons_zero, List.set_cons_succ]) | (refine wpC_val (v := ?_) (RBel.refl_) rfl (by rfl) ?_ ?_; rotate_left; (· (go_simp; try with_reducible rfl)); simp only [Act.put, List.setIfInBounds_toArray, List.set_cons_zero, List.set_cons_succ]) | (refine wpC_skip rfl (by rfl) ?_; simp only [Act.put, List.setIfInBounds_toArray, List.set_cons_zero, List.set_cons_succ]) | (refine wpC_skip' (RBel.refl_) rfl (by rfl) ?_; simp only [Act.put, List.setIfInBounds_toArray, List.set_cons_zero, List.set_cons_succ]))
    refine wpC_nil ?_
    go_wp2_with fail
    go_ret
    exact ⟨rfl, by rw [HN.out]; exact f8⟩
end Go.Proofs.Ytaaiembhdfgkjaa
