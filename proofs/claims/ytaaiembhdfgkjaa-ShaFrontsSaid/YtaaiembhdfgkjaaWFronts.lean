/- The walk of capstanlaw2.ShaFronts. -/
import Derived.Test.YtaaiembhdfgkjaaWTwo
namespace Go.Proofs.Ytaaiembhdfgkjaa
open Go.RowKit
set_option maxHeartbeats 2000000 in
theorem shaFronts_walk (w : World) (A : Option Addr) (n c : Nat) (bs : List UInt8) (hnc : n ≤ c) (hc : c ≤ maxLen) (sl : Sl w 1 A n (B8 bs)) (cut : Int) (cut_lo : -9223372036854775808 ≤ cut) (cut_hi : cut < 9223372036854775808) (y : UInt8) :
    Calls Try.prog 6 #[.slice A n c, .int .i64 cut, .int .u8 (y.toNat : Int)] w (RB true w) := by
  by_cases h300 : (300 : Int) < n
  · go_enter Try.func6, Try.ntmps6
    go_wp2_with fail
    refine (shaKnown_any w).mono ?_
    rintro e w1 ⟨rfl, h1⟩
    go_wp2_with fail
    go_ret
    exact ⟨rfl, h1⟩
  · have hn : n ≤ 300 := by omega
    obtain ⟨k, hk⟩ : ∃ k : Nat, cut % ((n : Int) + 1) = (k : Int) := ⟨(cut % ((n : Int) + 1)).toNat, by have := Int.emod_nonneg cut (show ((n : Int) + 1) ≠ 0 by omega); omega⟩
    have hkn : k ≤ n := by have := Int.emod_lt_of_pos cut (show 0 < (n : Int) + 1 by omega); omega
    have HK := Lib.hid hk
    have t1 : (k : Int) ≤ (c : Int) := by omega
    have hc2 : c ≤ 9223372036854775807 := by simp only [maxLen] at hc; omega
    have slf := sl.front hkn
    clear hk hc
    go_enter Try.func6, Try.ntmps6
    go_wp2_with fail
    refine (shaKnown_any w).mono ?_
    rintro e w1 ⟨rfl, h1⟩
    go_wp2_with fail
    refine (within_capstanlaw2 cut ((n : Int) + 1) w1 (by omega) (by omega) cut_lo cut_hi).mono ?_
    rintro e w' ⟨rfl, rfl⟩
    rw [HK.out]
    have s1 := sl.to h1
    go_upto_region 7 with (first
      | (at_builtin
         refine wpl_app _ _ _ _ elB rfl rfl rfl (Own.made w1 w1.heap.size 5 #[] (Nat.le_refl _) (Nat.zero_le _) (by simp)) rfl (s1.alloc _) (B8_one _) (by omega) (by omega) (by simp) ?_
         intro A2 c2 w2 g2
         have o2 : Own w2 w1.heap.size 5 1 A2 n c2 (B8 bs) := by have := g2.own; simp only [Nat.zero_add, List.nil_append] at this; exact this
         have h2 : Below w1.heap.size w1 w2 := ((Below.refl _ _).alloc (Nat.le_refl _) _).trans (g2.below (Own.made w1 w1.heap.size 5 #[] (Nat.le_refl _) (Nat.zero_le _) (by simp)) (by simp))
         have hs2 := h2.size
         rw [Nat.zero_add]
         clear g2)
      | (at_builtin
         refine wpl_push8 _ _ _ elB rfl rfl rfl o2 rfl y rfl (by omega) hs2 ?_
         intro A3 c3 w3 o3 h3 _ _))
    have f3 : Below w.heap.size w w3 := h1.trans ((h2.trans h3).mono h1.size)
    have s3 := o3.sl
    clear o2 o3 h2 h3 s1 h1
    go_wp2_with fail
    have s3b := sl.to f3
    refine (sum_any A n c bs w3 s3b (by omega)).mono ?_
    rintro e w4 ⟨rfl, h4⟩
    have hl := shaS_len bs
    unfold hv
    generalize hsm : shaS bs = sm at *
    have HSM := Lib.hid hsm
    have HS := Lib.hid hl
    clear hsm hl
    have f4 := f3.trans (h4.mono f3.size)
    have s4 := s3.to h4
    go_wp2_with (first
      | (refine wpl_store_new rfl _ _ _ rfl 26 _ (B8 sm) rfl rfl (by rw [B8_len, HS.out]; rfl) (info_hash HS.out) (B8_one _) ?_; intro w5 b5 h5))
    have f5 := f4.trans (h5.mono f4.size)
    have s5 := s4.to h5
    generalize w4.heap.size = pM at *
    clear h4 h5 s3b f3 f4 s3 s4
    refine wp_region_C [(0, true), (1, true), (2, true), (4, true), (5, true), (6, true), (3, false), (7, false), (8, false), (9, false), (10, true), (12, true), (11, false), (13, false), (14, false), (15, false), (16, false), (17, true), (19, true), (18, false), (20, false), (21, false), (22, false), (23, true), (24, false), (25, false), (26, false), (27, false), (28, false)] RBel (by kernel_rfl) (by kernel_rfl) (by kernel_rfl) (by decide) RBel.refl_ RBel.trans_ (by intro d v c a w h; cases d <;> exact h) ?_
    have f6 : Below w.heap.size w w5.drew := f5.drew
    have s6 := s5.drew
    have b6 : Blk w5.drew pM 26 (B8 sm) := b5
    clear f5 s5 b5
    generalize w5.drew = w6 at *
    repeat (first | (refine wpC_quiet (v := ?_) rfl (by rfl) ?_ ?_; rotate_left; (· (intro w' hw'; go_simp; try with_reducible rfl)); simp only [Act.put, List.setIfInBounds_toArray, List.set_cons_zero, List.set_cons_succ]) | (refine wpC_val (v := ?_) (RBel.refl_) rfl (by rfl) ?_ ?_; rotate_left; (· (go_simp; try with_reducible rfl)); simp only [Act.put, List.setIfInBounds_toArray, List.set_cons_zero, List.set_cons_succ]) | (refine wpC_skip rfl (by rfl) ?_; simp only [Act.put, List.setIfInBounds_toArray, List.set_cons_zero, List.set_cons_succ]) | (refine wpC_skip' (RBel.refl_) rfl (by rfl) ?_; simp only [Act.put, List.setIfInBounds_toArray, List.set_cons_zero, List.set_cons_succ]))
    (refine wpC_loud rfl (by rfl) ?_; intro K hK; go_simp)
    refine (sum_any A k c (bs.take k) w6 (slf.to f6) (by omega)).mono ?_
    rintro e w7 ⟨rfl, h7⟩
    unfold hv
    (refine hK.out _ _ (h7) ?_; clear hK K; try simp only [Act.put, List.setIfInBounds_toArray, List.set_cons_zero, List.set_cons_succ])
    have f7 := f6.trans (h7.mono f6.size)
    (refine wpC_loud rfl (by rfl) ?_; intro K hK; go_simp)
    refine (refSum_any A k c (bs.take k) w7 (slf.to f7) (by omega)).mono ?_
    rintro e w8 ⟨rfl, h8⟩
    unfold hv
    (refine hK.out _ _ (h8) ?_; clear hK K; try simp only [Act.put, List.setIfInBounds_toArray, List.set_cons_zero, List.set_cons_succ])
    have f8 := f7.trans (h8.mono f7.size)
    have eq1 := eq_self (shaS (bs.take k)) (shaS_len _)
    repeat (first | (refine wpC_quiet (v := ?_) rfl (by rfl) ?_ ?_; rotate_left; (· (intro w' hw'; go_simp; try with_reducible rfl)); simp only [Act.put, List.setIfInBounds_toArray, List.set_cons_zero, List.set_cons_succ]) | (refine wpC_val (v := ?_) (RBel.refl_) rfl (by rfl) ?_ ?_; rotate_left; (· (go_simp; try with_reducible rfl)); simp only [Act.put, List.setIfInBounds_toArray, List.set_cons_zero, List.set_cons_succ]) | (refine wpC_skip rfl (by rfl) ?_; simp only [Act.put, List.setIfInBounds_toArray, List.set_cons_zero, List.set_cons_succ]) | (refine wpC_skip' (RBel.refl_) rfl (by rfl) ?_; simp only [Act.put, List.setIfInBounds_toArray, List.set_cons_zero, List.set_cons_succ]))
    clear eq1
    (refine wpC_loud rfl (by rfl) ?_; intro K hK; go_simp)
    refine (sum_any A3 _ c3 (bs ++ [y]) w8 ((s6.to h7).to h8) (by omega)).mono ?_
    rintro e w9 ⟨rfl, h9⟩
    unfold hv
    (refine hK.out _ _ (h9) ?_; clear hK K; try simp only [Act.put, List.setIfInBounds_toArray, List.set_cons_zero, List.set_cons_succ])
    have f9 := f8.trans (h9.mono f8.size)
    (refine wpC_loud rfl (by rfl) ?_; intro K hK; go_simp)
    refine (refSum_any A3 _ c3 (bs ++ [y]) w9 (((s6.to h7).to h8).to h9) (by omega)).mono ?_
    rintro e w10 ⟨rfl, h10⟩
    unfold hv
    (refine hK.out _ _ (h10) ?_; clear hK K; try simp only [Act.put, List.setIfInBounds_toArray, List.set_cons_zero, List.set_cons_succ])
    have f10 := f9.trans (h10.mono f9.size)
    have eq2 := eq_self (shaS (bs ++ [y])) (shaS_len _)
    have b10 := (((b6.to h7).to h8).to h9).to h10
    repeat (first | (refine wpC_quiet (v := ?_) rfl (by rfl) ?_ ?_; rotate_left; (· (intro w' hw'; go_simp; try with_reducible rfl)); simp only [Act.put, List.setIfInBounds_toArray, List.set_cons_zero, List.set_cons_succ]) | (refine wpC_val (v := ?_) (RBel.refl_) rfl (by rfl) ?_ ?_; rotate_left; (· (go_simp; try with_reducible rfl)); simp only [Act.put, List.setIfInBounds_toArray, List.set_cons_zero, List.set_cons_succ]) | (refine wpC_skip rfl (by rfl) ?_; simp only [Act.put, List.setIfInBounds_toArray, List.set_cons_zero, List.set_cons_succ]) | (refine wpC_skip' (RBel.refl_) rfl (by rfl) ?_; simp only [Act.put, List.setIfInBounds_toArray, List.set_cons_zero, List.set_cons_succ]))
    clear eq2
    refine wpC_load rfl (by rfl) _ _ rfl pM 0 rfl (B8 sm) _ (fun w' hw' => (b10.to hw').range) Try.underlying26 rfl (info_hash HS.out) ?_
    simp only [Act.put, List.setIfInBounds_toArray, List.set_cons_zero, List.set_cons_succ]
    (refine wpC_loud rfl (by rfl) ?_; intro K hK; go_simp)
    refine (sum_any A n c bs w10 (sl.to f10) (by omega)).mono ?_
    rintro e w11 ⟨rfl, h11⟩
    rw [HSM.out]
    unfold hv
    (refine hK.out _ _ (h11) ?_; clear hK K; try simp only [Act.put, List.setIfInBounds_toArray, List.set_cons_zero, List.set_cons_succ])
    have f11 := f10.trans (h11.mono f10.size)
    have b11 := b10.to h11
    have eq3 := eq_self sm HS.out
    repeat (first | (refine wpC_quiet (v := ?_) rfl (by rfl) ?_ ?_; rotate_left; (· (intro w' hw'; go_simp; try with_reducible rfl)); simp only [Act.put, List.setIfInBounds_toArray, List.set_cons_zero, List.set_cons_succ]) | (refine wpC_val (v := ?_) (RBel.refl_) rfl (by rfl) ?_ ?_; rotate_left; (· (go_simp; try with_reducible rfl)); simp only [Act.put, List.setIfInBounds_toArray, List.set_cons_zero, List.set_cons_succ]) | (refine wpC_skip rfl (by rfl) ?_; simp only [Act.put, List.setIfInBounds_toArray, List.set_cons_zero, List.set_cons_succ]) | (refine wpC_skip' (RBel.refl_) rfl (by rfl) ?_; simp only [Act.put, List.setIfInBounds_toArray, List.set_cons_zero, List.set_cons_succ]))
    refine wpC_load rfl (by rfl) _ _ rfl pM 0 rfl (B8 sm) _ (fun w' hw' => (b11.to hw').range) Try.underlying26 rfl (info_hash HS.out) ?_
    simp only [Act.put, List.setIfInBounds_toArray, List.set_cons_zero, List.set_cons_succ]
    repeat (first | (refine wpC_quiet (v := ?_) rfl (by rfl) ?_ ?_; rotate_left; (· (intro w' hw'; go_simp; try with_reducible rfl)); simp only [Act.put, List.setIfInBounds_toArray, List.set_cons_zero, List.set_cons_succ]) | (refine wpC_val (v := ?_) (RBel.refl_) rfl (by rfl) ?_ ?_; rotate_left; (· (go_simp; try with_reducible rfl)); simp only [Act.put, List.setIfInBounds_toArray, List.set_cons_zero, List.set_cons_succ]) | (refine wpC_skip rfl (by rfl) ?_; simp only [Act.put, List.setIfInBounds_toArray, List.set_cons_zero, List.set_cons_succ]) | (refine wpC_skip' (RBel.refl_) rfl (by rfl) ?_; simp only [Act.put, List.setIfInBounds_toArray, List.set_cons_zero, List.set_cons_succ]))
    (refine wpC_loud rfl (by rfl) ?_; intro K hK; go_simp)
    refine (refSum_any A n c bs w11 (sl.to f11) (by omega)).mono ?_
    rintro e w12 ⟨rfl, h12⟩
    rw [HSM.out]
    unfold hv
    (refine hK.out _ _ (h12) ?_; clear hK K; try simp only [Act.put, List.setIfInBounds_toArray, List.set_cons_zero, List.set_cons_succ])
    have f12 := f11.trans (h12.mono f11.size)
    repeat (first | (refine wpC_quiet (v := ?_) rfl (by rfl) ?_ ?_; rotate_left; (· (intro w' hw'; go_simp; try with_reducible rfl)); simp only [Act.put, List.setIfInBounds_toArray, List.set_cons_zero, List.set_cons_succ]) | (refine wpC_val (v := ?_) (RBel.refl_) rfl (by rfl) ?_ ?_; rotate_left; (· (go_simp; try with_reducible rfl)); simp only [Act.put, List.setIfInBounds_toArray, List.set_cons_zero, List.set_cons_succ]) | (refine wpC_skip rfl (by rfl) ?_; simp only [Act.put, List.setIfInBounds_toArray, List.set_cons_zero, List.set_cons_succ]) | (refine wpC_skip' (RBel.refl_) rfl (by rfl) ?_; simp only [Act.put, List.setIfInBounds_toArray, List.set_cons_zero, List.set_cons_succ]))
    refine wpC_nil ?_
    go_wp2_with fail
    go_ret
    exact ⟨rfl, f12⟩
end Go.Proofs.Ytaaiembhdfgkjaa
