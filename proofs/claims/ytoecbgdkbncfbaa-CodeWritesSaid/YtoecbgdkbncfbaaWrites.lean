/- The walk of capstanlaw1.CodeWrites. -/
import Derived.Test.YtoecbgdkbncfbaaConcat
import Derived.Test.YtoecbgdkbncfbaaDraw
namespace Go.Proofs.Ytoecbgdkbncfbaa
open Go.RowKit
set_option maxHeartbeats 1000000 in
theorem codeWrites_walk (w : World) (A : Option Addr) (n c : Nat) (bs : List UInt8) (hnc : n ≤ c) (hc : c ≤ maxLen) (sl : Sl w 1 A n (B8 bs)) (i : Int) (i_lo : -9223372036854775808 ≤ i) (i_hi : i < 9223372036854775808)
    (A2 : Option Addr) (n2 c2 : Nat) (ss : List UInt8) (hnc2 : n2 ≤ c2) (hc2 : c2 ≤ maxLen) (sl2 : Sl w 1 A2 n2 (B8 ss)) (h : List UInt8) (hh : h.length = 32) :
    Calls Try.prog 4 #[.slice A n c, .int .i64 i, .slice A2 n2 c2, hv h] w (RB true w) := by
  clear hnc hc hnc2 hc2
  unfold hv
  by_cases h1 : n ≤ 300 ∧ n2 ≤ 500
  · obtain ⟨h1, h2⟩ := h1
    have t1 : ¬ (300 : Int) < n := by omega
    have t2 : ¬ (500 : Int) < n2 := by omega
    go_enter Try.func4, Try.ntmps4
    go_wp2_with fail
    have rg0 := range_new w (B8 h).toArray 29 (0, 0)
    have sA0 := sl.alloc (.cells (B8 h).toArray 29)
    have sS0 := sl2.alloc (.cells (B8 h).toArray 29)
    have hW0 := (Below.refl w.heap.size w).alloc (Nat.le_refl _) (.cells (B8 h).toArray 29)
    have hlt : w.heap.size < (w.alloc (.cells (B8 h).toArray 29)).heap.size := by simp
    refine (known_any _).mono ?_
    generalize w.alloc (.cells (B8 h).toArray 29) = W0 at *
    rintro e w1 ⟨rfl, hb1⟩
    go_wp2_with (first
      | (at_builtin
         refine wpl_app _ _ _ _ elB rfl rfl rfl (Own.made w1 w1.heap.size 5 #[] (Nat.le_refl _) (Nat.zero_le _) (by simp)) rfl ((sA0.to hb1).alloc _) (B8_one _) (by omega) (by omega) (by simp) ?_
         intro Aw cw w2 g))
    have oW := g.own
    simp only [Nat.zero_add, List.nil_append] at oW
    have H2 : Below W0.heap.size W0 w2 := hb1.trans (((Below.refl _ _).alloc hb1.size _).trans ((g.below (Own.made w1 w1.heap.size 5 #[] (Nat.le_refl _) (Nat.zero_le _) (by simp)) (by simp)).mono hb1.size))
    have hsz2 : w1.heap.size ≤ w2.heap.size := Nat.le_trans (by simp) g.grow.size
    clear g
    refine wp_region_C [(0, true), (1, true), (4, true), (5, true), (2, false), (3, true), (6, false), (7, false), (8, false), (9, false), (10, true), (11, true), (14, true), (15, true), (12, false), (13, true), (16, false), (17, false), (18, false), (19, false), (20, false), (21, true), (22, true), (25, true), (26, true), (23, false), (24, true), (27, false), (28, false), (29, false), (30, false), (31, false)] (RBut (Aw.map (·.block))) (by kernel_rfl) (by kernel_rfl) (by kernel_rfl) (by decide) (RBut.refl_ _) (RBut.trans_ _) (by intro d v c a w h; cases d <;> exact h) ?_
    have oW3 := oW.drew
    have H3 := H2.drew
    have hsz3 : w1.heap.size ≤ w2.drew.heap.size := hsz2
    clear oW H2 hsz2
    generalize w2.drew = w3 at *
    have rc := RBut.refl_ (Aw.map (·.block))
    repeat (first | (refine wpC_quiet (v := ?_) rfl (by rfl) ?_ ?_; rotate_left; (· (intro w' hw'; go_simp; try with_reducible rfl)); simp only [Act.put, List.setIfInBounds_toArray, List.set_cons_zero, List.set_cons_succ]) | (refine wpC_val (v := ?_) (RBut.refl_ _) rfl (by rfl) ?_ ?_; rotate_left; (· (go_simp; try with_reducible rfl)); simp only [Act.put, List.setIfInBounds_toArray, List.set_cons_zero, List.set_cons_succ]) | (refine wpC_skip rfl (by rfl) ?_; simp only [Act.put, List.setIfInBounds_toArray, List.set_cons_zero, List.set_cons_succ]) | (refine wpC_skip' (RBut.refl_ _) rfl (by rfl) ?_; simp only [Act.put, List.setIfInBounds_toArray, List.set_cons_zero, List.set_cons_succ]))
    (refine wpC_loud rfl (by rfl) ?_; intro K hK; go_simp)
    refine (int_any A n c bs i _ (sA0.to H3) (by omega) i_lo i_hi).mono ?_
    rintro e w4 ⟨A4, n4, c4, rfl, ho4, hb4⟩
    (refine hK.out _ _ (RBut.of_below hb4) ?_; clear hK K; try simp only [Act.put, List.setIfInBounds_toArray, List.set_cons_zero, List.set_cons_succ])
    have hsz4 : w1.heap.size ≤ w4.heap.size := Nat.le_trans hsz3 hb4.size
    have H4 := H3.trans (hb4.mono H3.size)
    have cv4 : ∀ w', RBut (Aw.map (·.block)) w4 w' → (convert 24 9 (.slice A4 n4 c4)).run Try.prog w' = .ok (.string (str (bs ++ enc (zig i)))) w' := by
      intro w' hw'
      exact conv_str Try.underlying24 Try.underlying5 Try.underlying9 (own_but ho4 hw' (own_ne oW3)).sl
    repeat (first | (refine wpC_quiet (v := ?_) rfl (by rfl) ?_ ?_; rotate_left; (· (intro w' hw'; go_simp; try with_reducible rfl)); simp only [Act.put, List.setIfInBounds_toArray, List.set_cons_zero, List.set_cons_succ]) | (refine wpC_val (v := ?_) (RBut.refl_ _) rfl (by rfl) ?_ ?_; rotate_left; (· (go_simp; try with_reducible rfl)); simp only [Act.put, List.setIfInBounds_toArray, List.set_cons_zero, List.set_cons_succ]) | (refine wpC_skip rfl (by rfl) ?_; simp only [Act.put, List.setIfInBounds_toArray, List.set_cons_zero, List.set_cons_succ]) | (refine wpC_skip' (RBut.refl_ _) rfl (by rfl) ?_; simp only [Act.put, List.setIfInBounds_toArray, List.set_cons_zero, List.set_cons_succ]))
    (refine wpC_loud rfl (by rfl) ?_; intro K hK; go_simp)
    refine (refInt_any Aw n cw w1.heap.size bs i _ (oW3.to hb4) hsz4 (by omega) i_lo i_hi).mono ?_
    rintro e w5 ⟨A5, n5, c5, rfl, on5⟩
    (refine hK.out _ _ (on5.grow) ?_; clear hK K; try simp only [Act.put, List.setIfInBounds_toArray, List.set_cons_zero, List.set_cons_succ])
    have hsz5 : w1.heap.size ≤ w5.heap.size := Nat.le_trans hsz4 on5.grow.size
    have H5 := H4.trans ((on5.bel hsz4).mono hb1.size)
    have cv5 : (convert 24 9 (.slice A5 n5 c5)).run Try.prog w5 = .ok (.string (str (bs ++ enc (zig i)))) w5 :=
      conv_str Try.underlying24 Try.underlying5 Try.underlying9 on5.own.sl
    clear cv4
    repeat (first | (refine wpC_quiet (v := ?_) rfl (by rfl) ?_ ?_; rotate_left; (· (intro w' hw'; go_simp; try with_reducible rfl)); simp only [Act.put, List.setIfInBounds_toArray, List.set_cons_zero, List.set_cons_succ]) | (refine wpC_val (v := ?_) (RBut.refl_ _) rfl (by rfl) ?_ ?_; rotate_left; (· (go_simp; try with_reducible rfl)); simp only [Act.put, List.setIfInBounds_toArray, List.set_cons_zero, List.set_cons_succ]) | (refine wpC_skip rfl (by rfl) ?_; simp only [Act.put, List.setIfInBounds_toArray, List.set_cons_zero, List.set_cons_succ]) | (refine wpC_skip' (RBut.refl_ _) rfl (by rfl) ?_; simp only [Act.put, List.setIfInBounds_toArray, List.set_cons_zero, List.set_cons_succ]))
    clear cv5
    (refine wpC_loud rfl (by rfl) ?_; intro K hK; go_simp)
    refine (text_any A n c bs A2 n2 c2 ss _ (sA0.to H5) (sS0.to H5) (by omega) (by omega)).mono ?_
    rintro e w6 ⟨A6, n6, c6, rfl, ho6, hb6⟩
    (refine hK.out _ _ (RBut.of_below hb6) ?_; clear hK K; try simp only [Act.put, List.setIfInBounds_toArray, List.set_cons_zero, List.set_cons_succ])
    have hsz6 : w1.heap.size ≤ w6.heap.size := Nat.le_trans hsz5 hb6.size
    have H6 := H5.trans (hb6.mono H5.size)
    have cv6 : ∀ w', RBut (Aw.map (·.block)) w6 w' → (convert 24 9 (.slice A6 n6 c6)).run Try.prog w' = .ok (.string (str (bs ++ enc (zig n2) ++ ss))) w' := by
      intro w' hw'
      exact conv_str Try.underlying24 Try.underlying5 Try.underlying9 (own_but ho6 hw' (own_ne on5.old)).sl
    repeat (first | (refine wpC_quiet (v := ?_) rfl (by rfl) ?_ ?_; rotate_left; (· (intro w' hw'; go_simp; try with_reducible rfl)); simp only [Act.put, List.setIfInBounds_toArray, List.set_cons_zero, List.set_cons_succ]) | (refine wpC_val (v := ?_) (RBut.refl_ _) rfl (by rfl) ?_ ?_; rotate_left; (· (go_simp; try with_reducible rfl)); simp only [Act.put, List.setIfInBounds_toArray, List.set_cons_zero, List.set_cons_succ]) | (refine wpC_skip rfl (by rfl) ?_; simp only [Act.put, List.setIfInBounds_toArray, List.set_cons_zero, List.set_cons_succ]) | (refine wpC_skip' (RBut.refl_ _) rfl (by rfl) ?_; simp only [Act.put, List.setIfInBounds_toArray, List.set_cons_zero, List.set_cons_succ]))
    (refine wpC_loud rfl (by rfl) ?_; intro K hK; go_simp)
    refine (refText_any W0 Aw n cw w1.heap.size bs A2 n2 c2 ss _ (on5.old.to hb6) sS0 H6 hb1.size hsz6 (by omega) (by omega)).mono ?_
    rintro e w7 ⟨A7, n7, c7, rfl, on7⟩
    (refine hK.out _ _ (on7.grow) ?_; clear hK K; try simp only [Act.put, List.setIfInBounds_toArray, List.set_cons_zero, List.set_cons_succ])
    have hsz7 : w1.heap.size ≤ w7.heap.size := Nat.le_trans hsz6 on7.grow.size
    have H7 := H6.trans ((on7.bel hsz6).mono hb1.size)
    have cv7 : (convert 24 9 (.slice A7 n7 c7)).run Try.prog w7 = .ok (.string (str (bs ++ enc (zig n2) ++ ss))) w7 :=
      conv_str Try.underlying24 Try.underlying5 Try.underlying9 on7.own.sl
    clear cv6
    repeat (first | (refine wpC_quiet (v := ?_) rfl (by rfl) ?_ ?_; rotate_left; (· (intro w' hw'; go_simp; try with_reducible rfl)); simp only [Act.put, List.setIfInBounds_toArray, List.set_cons_zero, List.set_cons_succ]) | (refine wpC_val (v := ?_) (RBut.refl_ _) rfl (by rfl) ?_ ?_; rotate_left; (· (go_simp; try with_reducible rfl)); simp only [Act.put, List.setIfInBounds_toArray, List.set_cons_zero, List.set_cons_succ]) | (refine wpC_skip rfl (by rfl) ?_; simp only [Act.put, List.setIfInBounds_toArray, List.set_cons_zero, List.set_cons_succ]) | (refine wpC_skip' (RBut.refl_ _) rfl (by rfl) ?_; simp only [Act.put, List.setIfInBounds_toArray, List.set_cons_zero, List.set_cons_succ]))
    clear cv7
    have rg7 : ∀ w', RBut (Aw.map (·.block)) w7 w' → w'.rangeAt w.heap.size 0 (B8 h) := by
      intro w' hw'
      have e1 := hw'.block w.heap.size (Nat.lt_of_lt_of_le hlt H7.size) (fun he => by have := (on7.old.lt _ he.symm).1; have := hb1.size; omega)
      exact range_keep rg0 (e1.trans (H7.block _ hlt))
    refine wpC_load rfl (by rfl) _ _ rfl w.heap.size 0 rfl (B8 h) _ rg7 Try.underlying29 rfl (by rw [B8_len, hh]; kernel_rfl) ?_
    simp only [Act.put, List.setIfInBounds_toArray, List.set_cons_zero, List.set_cons_succ]
    repeat (first | (refine wpC_quiet (v := ?_) rfl (by rfl) ?_ ?_; rotate_left; (· (intro w' hw'; go_simp; try with_reducible rfl)); simp only [Act.put, List.setIfInBounds_toArray, List.set_cons_zero, List.set_cons_succ]) | (refine wpC_val (v := ?_) (RBut.refl_ _) rfl (by rfl) ?_ ?_; rotate_left; (· (go_simp; try with_reducible rfl)); simp only [Act.put, List.setIfInBounds_toArray, List.set_cons_zero, List.set_cons_succ]) | (refine wpC_skip rfl (by rfl) ?_; simp only [Act.put, List.setIfInBounds_toArray, List.set_cons_zero, List.set_cons_succ]) | (refine wpC_skip' (RBut.refl_ _) rfl (by rfl) ?_; simp only [Act.put, List.setIfInBounds_toArray, List.set_cons_zero, List.set_cons_succ]))
    refine wpC_load rfl (by rfl) _ _ rfl w.heap.size 0 rfl (B8 h) _ rg7 Try.underlying29 rfl (by rw [B8_len, hh]; kernel_rfl) ?_
    simp only [Act.put, List.setIfInBounds_toArray, List.set_cons_zero, List.set_cons_succ]
    (refine wpC_loud rfl (by rfl) ?_; intro K hK; go_simp)
    refine (hash_any A n c bs h _ (sA0.to H7) (by omega) hh).mono ?_
    rintro e w8 ⟨A8, n8, c8, rfl, ho8, hb8⟩
    (refine hK.out _ _ (RBut.of_below hb8) ?_; clear hK K; try simp only [Act.put, List.setIfInBounds_toArray, List.set_cons_zero, List.set_cons_succ])
    have hsz8 : w1.heap.size ≤ w8.heap.size := Nat.le_trans hsz7 hb8.size
    have H8 := H7.trans (hb8.mono H7.size)
    have cv8 : ∀ w', RBut (Aw.map (·.block)) w8 w' → (convert 24 9 (.slice A8 n8 c8)).run Try.prog w' = .ok (.string (str (bs ++ h))) w' := by
      intro w' hw'
      exact conv_str Try.underlying24 Try.underlying5 Try.underlying9 (own_but ho8 hw' (own_ne on7.old)).sl
    repeat (first | (refine wpC_quiet (v := ?_) rfl (by rfl) ?_ ?_; rotate_left; (· (intro w' hw'; go_simp; try with_reducible rfl)); simp only [Act.put, List.setIfInBounds_toArray, List.set_cons_zero, List.set_cons_succ]) | (refine wpC_val (v := ?_) (RBut.refl_ _) rfl (by rfl) ?_ ?_; rotate_left; (· (go_simp; try with_reducible rfl)); simp only [Act.put, List.setIfInBounds_toArray, List.set_cons_zero, List.set_cons_succ]) | (refine wpC_skip rfl (by rfl) ?_; simp only [Act.put, List.setIfInBounds_toArray, List.set_cons_zero, List.set_cons_succ]) | (refine wpC_skip' (RBut.refl_ _) rfl (by rfl) ?_; simp only [Act.put, List.setIfInBounds_toArray, List.set_cons_zero, List.set_cons_succ]))
    (refine wpC_loud rfl (by rfl) ?_; intro K hK; go_simp)
    refine (refHash_any Aw n cw w1.heap.size bs h _ (on7.old.to hb8) hsz8 (by omega) hh).mono ?_
    rintro e w9 ⟨A9, n9, c9, rfl, on9⟩
    (refine hK.out _ _ (on9.grow) ?_; clear hK K; try simp only [Act.put, List.setIfInBounds_toArray, List.set_cons_zero, List.set_cons_succ])
    have H9 := H8.trans ((on9.bel hsz8).mono hb1.size)
    have cv9 : (convert 24 9 (.slice A9 n9 c9)).run Try.prog w9 = .ok (.string (str (bs ++ h))) w9 :=
      conv_str Try.underlying24 Try.underlying5 Try.underlying9 on9.own.sl
    clear cv8
    repeat (first | (refine wpC_quiet (v := ?_) rfl (by rfl) ?_ ?_; rotate_left; (· (intro w' hw'; go_simp; try with_reducible rfl)); simp only [Act.put, List.setIfInBounds_toArray, List.set_cons_zero, List.set_cons_succ]) | (refine wpC_val (v := ?_) (RBut.refl_ _) rfl (by rfl) ?_ ?_; rotate_left; (· (go_simp; try with_reducible rfl)); simp only [Act.put, List.setIfInBounds_toArray, List.set_cons_zero, List.set_cons_succ]) | (refine wpC_skip rfl (by rfl) ?_; simp only [Act.put, List.setIfInBounds_toArray, List.set_cons_zero, List.set_cons_succ]) | (refine wpC_skip' (RBut.refl_ _) rfl (by rfl) ?_; simp only [Act.put, List.setIfInBounds_toArray, List.set_cons_zero, List.set_cons_succ]))
    refine wpC_nil ?_
    have fin := hW0.trans (H9.mono hW0.size)
    go_wp2
    go_ret
    exact ⟨rfl, fin⟩
  · go_enter Try.func4, Try.ntmps4
    have h2 : (300 : Int) < n ∨ (500 : Int) < n2 := by omega
    by_cases t1 : (300 : Int) < n
    all_goals
      by_cases t2 : (500 : Int) < n2
      all_goals first
        | (exfalso; omega)
        | (go_wp2_with fail
           refine (known_any _).mono ?_
           rintro e w1 ⟨rfl, hb1⟩
           go_wp2
           go_ret
           exact ⟨rfl, ((Below.refl _ _).alloc (Nat.le_refl _) _).trans (hb1.mono (by simp))⟩)
end Go.Proofs.Ytoecbgdkbncfbaa
