/- The walk of capstanlaw1.CodeSums. -/
import Derived.Test.YtoecbgdkbncfbaaRead5
import Derived.Test.YtoecbgdkbncfbaaConcat

namespace Go.Proofs.Ytoecbgdkbncfbaa
open Go.RowKit
set_option maxHeartbeats 2000000 in
theorem codeSums_walk (w : World) (h : List UInt8) (hh : h.length = 32) (g : List UInt8) (hg : g.length = 32) (n : Int) (n_lo : -9223372036854775808 ≤ n) (n_hi : n < 9223372036854775808) (cut : Int) (cut_lo : -9223372036854775808 ≤ cut) (cut_hi : cut < 9223372036854775808) :
    Calls Try.prog 10 #[hv h, hv g, .int .i64 n, .int .i64 cut] w (RB true w) := by
  unfold hv
  obtain ⟨k, hk, hk32⟩ : ∃ k : Nat, cut % 32 = (k : Int) ∧ k < 32 := ⟨(cut % 32).toNat, by omega, by omega⟩
  have HK := Lib.hid hk
  have hzl := enc_le (zig_lt n_lo n_hi)
  have hzp := enc_pos (zig n)
  have B : Hid (∃ bs : List UInt8, bs = h ++ enc (zig n) ++ g ∧ bs.length = 64 + (enc (zig n)).length) := (by
    show ∃ _, _
    exact ⟨_, rfl, by simp [hh, hg]; omega⟩)
  clear hk
  go_enter Try.func10, Try.ntmps10
  obtain ⟨W, hW⟩ : ∃ W, W = (w.alloc (.cells (B8 h).toArray 29)).alloc (.cells (B8 g).toArray 29) := ⟨_, rfl⟩
  have hbw : Below w.heap.size w W := by
    subst hW
    exact ((Below.refl _ _).alloc (Nat.le_refl _) _).alloc (by simp) _
  have bh : Blk W w.heap.size 29 (B8 h) := by
    subst hW
    exact (Blk.new w (B8 h).toArray 29).to ((Below.refl _ _).alloc (Nat.le_refl _) _)
  have bg : Blk W (w.heap.size + 1) 29 (B8 g) := by
    subst hW
    have := Blk.new (w.alloc (.cells (B8 h).toArray 29)) (B8 g).toArray 29
    simpa using this
  have HW := Lib.hid hW
  clear hW
  go_upto_region 1 with fail
  refine wp_at HW.out ?_
  clear HW
  go_wp2_with fail
  refine (known_any _).mono ?_
  rintro e w1 ⟨rfl, hb1⟩
  have bh1 := (bh.to hb1).range
  have bh1' := bh.to hb1
  have bg1' := bg.to hb1
  have fin1 := hbw.trans (hb1.mono hbw.size)
  clear bh bg
  go_wp2_with fail
  refine wp_region_C [(0, true), (2, true), (4, true), (1, false), (3, false), (5, false), (6, false)] RBel (by kernel_rfl) (by kernel_rfl) (by kernel_rfl) (by decide) RBel.refl_ RBel.trans_ (by intro d v c a w h; cases d <;> exact h) ?_
  have bh2 : ∀ w', RBel w1.drew w' → w'.rangeAt w.heap.size 0 (B8 h) := fun w' hw' => (Blk.to (w := w1.drew) bh1' hw').range
  have bg2 : ∀ w', RBel w1.drew w' → w'.rangeAt (w.heap.size + 1) 0 (B8 g) := fun w' hw' => (Blk.to (w := w1.drew) bg1' hw').range
  refine wpC_load rfl (by rfl) _ _ rfl w.heap.size 0 rfl (B8 h) _ bh2 Try.underlying29 rfl (info_hash hh) ?_
  simp only [Act.put, List.setIfInBounds_toArray, List.set_cons_zero, List.set_cons_succ]
  repeat (first | (refine wpC_quiet (v := ?_) rfl (by rfl) ?_ ?_; rotate_left; (· (intro w' hw'; go_simp; try with_reducible rfl)); simp only [Act.put, List.setIfInBounds_toArray, List.set_cons_zero, List.set_cons_succ]) | (refine wpC_val (v := ?_) (RBel.refl_) rfl (by rfl) ?_ ?_; rotate_left; (· (go_simp; try with_reducible rfl)); simp only [Act.put, List.setIfInBounds_toArray, List.set_cons_zero, List.set_cons_succ]) | (refine wpC_skip rfl (by rfl) ?_; simp only [Act.put, List.setIfInBounds_toArray, List.set_cons_zero, List.set_cons_succ]) | (refine wpC_skip' (RBel.refl_) rfl (by rfl) ?_; simp only [Act.put, List.setIfInBounds_toArray, List.set_cons_zero, List.set_cons_succ]))
  refine wpC_load rfl (by rfl) _ _ rfl (w.heap.size + 1) 0 rfl (B8 g) _ bg2 Try.underlying29 rfl (info_hash hg) ?_
  simp only [Act.put, List.setIfInBounds_toArray, List.set_cons_zero, List.set_cons_succ]
  clear bh2 bg2
  (refine wpC_loud rfl (by rfl) ?_; intro K hK; go_simp)
  refine (hash_any none 0 0 [] h _ Sl.nil_ (by omega) hh).mono ?_
  rintro e w2 ⟨A2, n2, c2, rfl, ho2, hb2⟩
  (refine hK.out _ _ (hb2) ?_; clear hK K; try simp only [Act.put, List.setIfInBounds_toArray, List.set_cons_zero, List.set_cons_succ])
  have hn2 : n2 ≤ 32 := by rw [ho2.len8]; simp [hh]
  (refine wpC_loud rfl (by rfl) ?_; intro K hK; go_simp)
  refine (int_any A2 n2 c2 ([] ++ h) n _ ho2.sl (by omega) n_lo n_hi).mono ?_
  rintro e w3 ⟨A3, n3, c3, rfl, ho3, hb3⟩
  (refine hK.out _ _ (hb3) ?_; clear hK K; try simp only [Act.put, List.setIfInBounds_toArray, List.set_cons_zero, List.set_cons_succ])
  have hn3 : n3 ≤ 42 := by rw [ho3.len8]; simp [hh]; omega
  (refine wpC_loud rfl (by rfl) ?_; intro K hK; go_simp)
  refine (hash_any A3 n3 c3 _ g _ ho3.sl (by omega) hg).mono ?_
  rintro e w4 ⟨A4, n4, c4, rfl, ho4, hb4⟩
  (refine hK.out _ _ (hb4) ?_; clear hK K; try simp only [Act.put, List.setIfInBounds_toArray, List.set_cons_zero, List.set_cons_succ])
  obtain ⟨bs, hbs, hbl⟩ := B.out
  have ho4' : Own w4 w3.heap.size 5 1 A4 n4 c4 (B8 bs) := by rw [hbs]; simpa using ho4
  have l4 := ho4'.len8
  have HBS := Lib.hid hbs
  have fin2 := fin1.drew.trans (Below.mono hb2 (show w.heap.size ≤ w1.drew.heap.size from fin1.size))
  have fin3 := fin2.trans (hb3.mono fin2.size)
  have fin4 := fin3.trans (hb4.mono fin3.size)
  have q1 : Below w1.heap.size w1 w4 := (Below.refl w1.heap.size w1).drew.trans (Below.trans hb2 (Below.mono (hb3.trans (hb4.mono hb3.size)) hb2.size))
  have bh4 := bh1'.to q1
  have bg4 := bg1'.to q1
  have t65 : ¬ (n4 : Int) < 65 := by omega
  have hn74 : n4 ≤ 74 := by omega
  have hc4 := ho4'.le
  have sl4 := ho4'.sl
  obtain ⟨b, o, rfl, hblt⟩ := sl4.some_ (by omega)
  clear l4 ho4 ho4' ho2 ho3 hb2 hb3 hb4 q1 bh1 bh1' bg1' fin1 fin2 fin3 B hbs
  repeat (first | (refine wpC_quiet (v := ?_) rfl (by rfl) ?_ ?_; rotate_left; (· (intro w' hw'; go_simp; try with_reducible rfl)); simp only [Act.put, List.setIfInBounds_toArray, List.set_cons_zero, List.set_cons_succ]) | (refine wpC_val (v := ?_) (RBel.refl_) rfl (by rfl) ?_ ?_; rotate_left; (· (go_simp; try with_reducible rfl)); simp only [Act.put, List.setIfInBounds_toArray, List.set_cons_zero, List.set_cons_succ]) | (refine wpC_skip rfl (by rfl) ?_; simp only [Act.put, List.setIfInBounds_toArray, List.set_cons_zero, List.set_cons_succ]) | (refine wpC_skip' (RBel.refl_) rfl (by rfl) ?_; simp only [Act.put, List.setIfInBounds_toArray, List.set_cons_zero, List.set_cons_succ]))
  refine wpC_nil ?_
  go_wp2_with fail
  refine (new_any (some ⟨b, o, none⟩) n4 c4 bs _ sl4 (by omega)).mono ?_
  rintro e w5 ⟨p, rfl, hp, hr5, hb5⟩
  have fin5 := fin4.trans (hb5.mono fin4.size)
  have bh5 := bh4.to hb5
  have bg5 := bg4.to hb5
  have sl5 := sl4.to hb5
  have hpw : w.heap.size ≤ p := Nat.le_trans fin4.size hp
  have hbp : b ≠ p := by omega
  have hph : w.heap.size ≠ p := by have := bh4.lt; omega
  have hpg : w.heap.size + 1 ≠ p := by have := bg4.lt; omega
  clear bh4 bg4 fin4 sl4
  go_wp2_with fail
  have S1 : Hid (stHash (bs, 0) = (h, (enc (zig n) ++ g, 0))) := (by
    show _ = _
    rw [HBS.out]
    simp [stHash, hh, hg])
  have S2 : Hid (stInt (enc (zig n) ++ g, 0) = (n, (g, 0))) := (by show _ = _; simp [stInt, dec_enc0 (zig n) g (zig_lt n_lo n_hi), zag_zig])
  have S3 : Hid (stHash (g, 0) = (g, ([], 0))) := (by show _ = _; simp [stHash, hg, List.take_of_length_le (Nat.le_of_eq hg)])
  have eh := eq_hash h h hh hh
  have eg := eq_hash g g hg hg
  rw [show decide (h = h) = true from by simp] at eh
  rw [show decide (g = g) = true from by simp] at eg
  have rg5 : ∀ w', RBut (some p) w5.drew w' → w'.rangeAt w.heap.size 0 (B8 h) := fun w' hw' => (Blk.but (w := w5.drew) bh5 hw' (fun h => by injection h; omega)).range
  have b1 : decide ((n4 : Int) < 65) = false := by simp; omega
  refine wp_region_C [(0, false), (1, false), (2, false), (3, false), (4, true), (6, true), (5, false), (7, false), (8, false), (9, false), (10, true), (12, true), (11, false), (13, false), (14, false), (15, false), (16, true), (18, true), (17, false), (19, false), (20, false), (21, false), (22, false), (23, false), (24, false), (25, false)] (RBut (some p)) (by kernel_rfl) (by kernel_rfl) (by kernel_rfl) (by decide) (RBut.refl_ _) (RBut.trans_ _) (by intro d v c a w h; cases d <;> exact h) ?_
  have hr5' : Rd w5.drew p bs 0 := hr5.keep (Below.refl _ _).drew
  have bh5' : Blk w5.drew w.heap.size 29 (B8 h) := bh5
  have bg5' : Blk w5.drew (w.heap.size + 1) 29 (B8 g) := bg5
  have sl5' := sl5.drew
  have fin5' := fin5.drew
  clear hr5 bh5 bg5 sl5 fin5 hb5 hblt
  generalize w5.drew = w6 at *
  repeat (first | (refine wpC_quiet (v := ?_) rfl (by rfl) ?_ ?_; rotate_left; (· (intro w' hw'; go_simp; try with_reducible rfl)); simp only [Act.put, List.setIfInBounds_toArray, List.set_cons_zero, List.set_cons_succ]) | (refine wpC_val (v := ?_) (RBut.refl_ _) rfl (by rfl) ?_ ?_; rotate_left; (· (go_simp; try with_reducible rfl)); simp only [Act.put, List.setIfInBounds_toArray, List.set_cons_zero, List.set_cons_succ]) | (refine wpC_skip rfl (by rfl) ?_; simp only [Act.put, List.setIfInBounds_toArray, List.set_cons_zero, List.set_cons_succ]) | (refine wpC_skip' (RBut.refl_ _) rfl (by rfl) ?_; simp only [Act.put, List.setIfInBounds_toArray, List.set_cons_zero, List.set_cons_succ]))
  refine wpC_load rfl (by rfl) _ _ rfl w.heap.size 0 rfl (B8 h) _ rg5 Try.underlying29 rfl (info_hash hh) ?_
  simp only [Act.put, List.setIfInBounds_toArray, List.set_cons_zero, List.set_cons_succ]
  clear rg5
  (refine wpC_loud rfl (by rfl) ?_; intro K hK; go_simp)
  refine (rHash_any p (bs, 0) _ hr5').mono ?_
  rw [S1.out]
  rintro e w7 ⟨rfl, hr7, hb7⟩
  unfold hv
  (refine hK.out _ _ (hb7) ?_; clear hK K; try simp only [Act.put, List.setIfInBounds_toArray, List.set_cons_zero, List.set_cons_succ])
  have fin7 := fin5'.trans (below_but hb7 hpw fin5'.size)
  have bg7 := bg5'.but hb7 (fun h => by injection h; omega)
  dsimp only at hr7
  repeat (first | (refine wpC_quiet (v := ?_) rfl (by rfl) ?_ ?_; rotate_left; (· (intro w' hw'; go_simp; try with_reducible rfl)); simp only [Act.put, List.setIfInBounds_toArray, List.set_cons_zero, List.set_cons_succ]) | (refine wpC_val (v := ?_) (RBut.refl_ _) rfl (by rfl) ?_ ?_; rotate_left; (· (go_simp; try with_reducible rfl)); simp only [Act.put, List.setIfInBounds_toArray, List.set_cons_zero, List.set_cons_succ]) | (refine wpC_skip rfl (by rfl) ?_; simp only [Act.put, List.setIfInBounds_toArray, List.set_cons_zero, List.set_cons_succ]) | (refine wpC_skip' (RBut.refl_ _) rfl (by rfl) ?_; simp only [Act.put, List.setIfInBounds_toArray, List.set_cons_zero, List.set_cons_succ]))
  (refine wpC_loud rfl (by rfl) ?_; intro K hK; go_simp)
  refine (rInt_any p (_, 0) _ hr7).mono ?_
  rw [S2.out]
  rintro e w8 ⟨rfl, hr8, hb8⟩
  (refine hK.out _ _ (hb8) ?_; clear hK K; try simp only [Act.put, List.setIfInBounds_toArray, List.set_cons_zero, List.set_cons_succ])
  have fin8 := fin7.trans (below_but hb8 hpw fin7.size)
  have bg8 := bg7.but hb8 (fun h => by injection h; omega)
  have rg8 : ∀ w', RBut (some p) w8 w' → w'.rangeAt (w.heap.size + 1) 0 (B8 g) := fun w' hw' => (bg8.but hw' (fun h => by injection h; omega)).range
  dsimp only at hr8
  repeat (first | (refine wpC_quiet (v := ?_) rfl (by rfl) ?_ ?_; rotate_left; (· (intro w' hw'; go_simp; try with_reducible rfl)); simp only [Act.put, List.setIfInBounds_toArray, List.set_cons_zero, List.set_cons_succ]) | (refine wpC_val (v := ?_) (RBut.refl_ _) rfl (by rfl) ?_ ?_; rotate_left; (· (go_simp; try with_reducible rfl)); simp only [Act.put, List.setIfInBounds_toArray, List.set_cons_zero, List.set_cons_succ]) | (refine wpC_skip rfl (by rfl) ?_; simp only [Act.put, List.setIfInBounds_toArray, List.set_cons_zero, List.set_cons_succ]) | (refine wpC_skip' (RBut.refl_ _) rfl (by rfl) ?_; simp only [Act.put, List.setIfInBounds_toArray, List.set_cons_zero, List.set_cons_succ]))
  refine wpC_load rfl (by rfl) _ _ rfl (w.heap.size + 1) 0 rfl (B8 g) _ rg8 Try.underlying29 rfl (info_hash hg) ?_
  simp only [Act.put, List.setIfInBounds_toArray, List.set_cons_zero, List.set_cons_succ]
  clear rg8
  (refine wpC_loud rfl (by rfl) ?_; intro K hK; go_simp)
  refine (rHash_any p (g, 0) _ hr8).mono ?_
  rw [S3.out]
  rintro e w9 ⟨rfl, hr9, hb9⟩
  unfold hv
  (refine hK.out _ _ (hb9) ?_; clear hK K; try simp only [Act.put, List.setIfInBounds_toArray, List.set_cons_zero, List.set_cons_succ])
  have fin9 := fin8.trans (below_but hb9 hpw fin8.size)
  dsimp only at hr9
  repeat (first | (refine wpC_quiet (v := ?_) rfl (by rfl) ?_ ?_; rotate_left; (· (intro w' hw'; go_simp; try with_reducible rfl)); simp only [Act.put, List.setIfInBounds_toArray, List.set_cons_zero, List.set_cons_succ]) | (refine wpC_val (v := ?_) (RBut.refl_ _) rfl (by rfl) ?_ ?_; rotate_left; (· (go_simp; try with_reducible rfl)); simp only [Act.put, List.setIfInBounds_toArray, List.set_cons_zero, List.set_cons_succ]) | (refine wpC_skip rfl (by rfl) ?_; simp only [Act.put, List.setIfInBounds_toArray, List.set_cons_zero, List.set_cons_succ]) | (refine wpC_skip' (RBut.refl_ _) rfl (by rfl) ?_; simp only [Act.put, List.setIfInBounds_toArray, List.set_cons_zero, List.set_cons_succ]))
  (refine wpC_loud rfl (by rfl) ?_; intro K hK; go_simp)
  refine (rEnd_any p ([], 0) _ hr9).mono ?_
  rw [show stEnd ([], 0) = 0 from rfl]
  rintro e w' ⟨rfl, rfl⟩
  (refine hK.out _ _ (RBut.refl_ _ _) ?_; clear hK K; try simp only [Act.put, List.setIfInBounds_toArray, List.set_cons_zero, List.set_cons_succ])
  repeat (first | (refine wpC_quiet (v := ?_) rfl (by rfl) ?_ ?_; rotate_left; (· (intro w' hw'; go_simp; try with_reducible rfl)); simp only [Act.put, List.setIfInBounds_toArray, List.set_cons_zero, List.set_cons_succ]) | (refine wpC_val (v := ?_) (RBut.refl_ _) rfl (by rfl) ?_ ?_; rotate_left; (· (go_simp; try with_reducible rfl)); simp only [Act.put, List.setIfInBounds_toArray, List.set_cons_zero, List.set_cons_succ]) | (refine wpC_skip rfl (by rfl) ?_; simp only [Act.put, List.setIfInBounds_toArray, List.set_cons_zero, List.set_cons_succ]) | (refine wpC_skip' (RBut.refl_ _) rfl (by rfl) ?_; simp only [Act.put, List.setIfInBounds_toArray, List.set_cons_zero, List.set_cons_succ]))
  refine wpC_nil ?_
  go_wp2_with fail
  have sl9 := ((((sl5'.but hb7 (fun h => by injection h; omega)).but hb8 (fun h => by injection h; omega)).but hb9 (fun h => by injection h; omega)).front (k := k) (by omega))
  have hl : (bs.take k).length < 32 := by rw [List.length_take]; omega
  have S4 : Hid (stHash (bs.take k, 0) = (zero32, ([], 8))) := (by show _ = _; unfold stHash; rw [if_pos rfl, if_pos hl])
  have t3 : (k : Int) ≤ (c4 : Int) := by omega
  have t4 : c4 ≤ 9223372036854775807 := by have := hc4.2; simp only [maxLen] at this; omega
  have hz := eq_zero zero32 rfl
  rw [show decide (zero32 = zero32) = true from by simp] at hz
  clear eh eg hl b1 sl5'
  refine (within_any cut 32 _ (by omega) (by omega) cut_lo cut_hi).mono ?_
  rintro e w' ⟨rfl, rfl⟩
  rw [HK.out]
  go_wp2_with fail
  refine (new_any (some ⟨b, o, none⟩) k c4 (bs.take k) _ sl9 (by omega)).mono ?_
  rintro e w10 ⟨q, rfl, hq, hr10, hb10⟩
  have fin10 := fin9.trans (hb10.mono fin9.size)
  have hqw : w.heap.size ≤ q := Nat.le_trans fin9.size hq
  go_wp2_with fail
  refine (rHash_any q (bs.take k, 0) _ hr10).mono ?_
  rw [S4.out]
  rintro e w11 ⟨rfl, hr11, hb11⟩
  unfold hv
  dsimp only at hr11 ⊢
  have fin11 := fin10.trans (below_but hb11 hqw fin10.size)
  go_wp2_with fail
  refine (rEnd_any q ([], 8) _ hr11).mono ?_
  rw [show stEnd ([], 8) = 8 from rfl]
  rintro e w' ⟨rfl, rfl⟩
  go_wp2
  go_ret
  exact ⟨rfl, fin11⟩
end Go.Proofs.Ytoecbgdkbncfbaa
