/- The walk of capstanlaw2.ShaTwo. -/
import Derived.Test.YtaaiembhdfgkjaaRefTwo
namespace Go.Proofs.Ytaaiembhdfgkjaa
open Go.RowKit
theorem eq_self (a : List UInt8) (ha : a.length = 32) (w : World) : (Op.equalIn 10000 26 (.agg (B8 a).toArray) (.agg (B8 a).toArray)).run Try.prog w = .ok true w := by
  rw [eq_hash a a ha ha w]
  simp
theorem rng {w : World} {b : Nat} {t : TypeId} {cs : List Value} {R : World → World → Prop} {row : Option Nat} (h : Blk w b t cs) (hR : ∀ w', R w w' → RBut row w w') (hne : some b ≠ row) : ∀ w', R w w' → w'.rangeAt b 0 cs := fun w' hw' => (h.but (hR w' hw') hne).range
set_option maxHeartbeats 2000000 in
theorem shaTwo_walk (w : World) (a : List UInt8) (ha : a.length = 32) (b : List UInt8) (hb : b.length = 32) : Calls Try.prog 8 #[hv a, hv b] w (RB true w) := by
  unfold hv
  obtain ⟨W, hW⟩ : ∃ W, W = (w.alloc (.cells (B8 a).toArray 26)).alloc (.cells (B8 b).toArray 26) := ⟨_, rfl⟩
  have hbw : Below w.heap.size w W := by
    subst hW
    exact ((Below.refl _ _).alloc (Nat.le_refl _) _).alloc (by simp) _
  have ba : Blk W w.heap.size 26 (B8 a) := by
    subst hW
    exact (Blk.new w (B8 a).toArray 26).to ((Below.refl _ _).alloc (Nat.le_refl _) _)
  have bb : Blk W (w.heap.size + 1) 26 (B8 b) := by
    subst hW
    have := Blk.new (w.alloc (.cells (B8 a).toArray 26)) (B8 b).toArray 26
    simpa using this
  have HW := Lib.hid hW
  have HA := Lib.hid ha
  have HB := Lib.hid hb
  clear hW ha hb
  go_enter Try.func8, Try.ntmps8
  go_upto_region 1 with fail
  refine wp_at HW.out ?_
  clear HW
  generalize hN : w.heap.size = N at *
  have HN := Lib.hid hN
  clear hN
  have hzl := bb.lt
  go_upto_region 3 with fail
  refine (shaKnown_any W).mono ?_
  rintro e w1 ⟨rfl, h1⟩
  have ba1 := ba.to h1
  have bb1 := bb.to h1
  have hz1 := bb1.lt
  have f1 := hbw.trans (h1.mono (by omega))
  clear ba bb h1 hzl hbw
  go_upto_region 3 with fail
  have s2 := (ba1.sl (size := 1) (n := 32) (by rw [B8_len, HA.out]))
  have o1 := Own.made (size := 1) (n := 1) w1 w1.heap.size 5 #[.int .u8 1] (Nat.le_refl _) (by decide) rfl
  go_wp2_with (first
    | (at_builtin
       refine wpl_app _ _ _ _ elB rfl rfl rfl o1 rfl (s2.alloc _) (B8_one _) (by omega) (by omega) (by simp) ?_
       intro A2 c2 w2 g2))
  have o2 : Own w2 w1.heap.size 5 1 A2 33 c2 (B8 ([1] ++ a)) := by have := g2.own; rw [B8_app]; exact this
  have h2 : Below w1.heap.size w1 w2 := ((Below.refl _ _).alloc (Nat.le_refl _) _).trans (g2.below o1 (by simp))
  have ba2 := ba1.to h2
  have bb2 := bb1.to h2
  have f2 := f1.trans (h2.mono (by omega))
  have hs2 := h2.size
  clear g2 o1 s2 ba1 bb1 h2 f1
  refine wp_region_C [(0, true), (1, true), (3, true), (4, true), (2, false), (5, false), (6, false), (7, false), (8, false), (9, true), (10, true), (12, true), (13, true), (11, false), (14, false), (15, false), (16, false), (17, false)] (RBut (A2.map (·.block))) (by kernel_rfl) (by kernel_rfl) (by kernel_rfl) (by decide) (RBut.refl_ _) (RBut.trans_ _) (by intro d v c a w h; cases d <;> exact h) ?_
  have ba3 : Blk w2.drew N 26 (B8 a) := ba2
  have bb3 : Blk w2.drew (N + 1) 26 (B8 b) := bb2
  have o3 : Own w2.drew w1.heap.size 5 1 A2 33 c2 (B8 ([1] ++ a)) := o2
  have f3 : Below N w w2.drew := f2.drew
  have hs3 : w1.heap.size ≤ w2.drew.heap.size := hs2
  clear ba2 bb2 o2 f2 hs2
  generalize w2.drew = w3 at *
  have hne : ∀ k, k < w1.heap.size → some k ≠ A2.map (·.block) := fun k hk he => by have := (o3.lt k he.symm).1; omega
  have HNE := Lib.hid hne
  clear hne
  have ra := rng (R := RBut (A2.map (·.block))) ba3 (fun _ h => h) (HNE.out _ (by omega))
  have rb := rng (R := RBut (A2.map (·.block))) bb3 (fun _ h => h) (HNE.out _ (by omega))
  refine wpC_load rfl (by rfl) _ _ rfl N 0 rfl (B8 a) _ ra Try.underlying26 rfl (info_hash HA.out) ?_
  simp only [Act.put, List.setIfInBounds_toArray, List.set_cons_zero, List.set_cons_succ]
  refine wpC_load rfl (by rfl) _ _ rfl (N + 1) 0 rfl (B8 b) _ rb Try.underlying26 rfl (info_hash HB.out) ?_
  simp only [Act.put, List.setIfInBounds_toArray, List.set_cons_zero, List.set_cons_succ]
  clear ra rb
  repeat (first | (refine wpC_quiet (v := ?_) rfl (by rfl) ?_ ?_; rotate_left; (· (intro w' hw'; go_simp; try with_reducible rfl)); simp only [Act.put, List.setIfInBounds_toArray, List.set_cons_zero, List.set_cons_succ]) | (refine wpC_val (v := ?_) (RBut.refl_ _) rfl (by rfl) ?_ ?_; rotate_left; (· (go_simp; try with_reducible rfl)); simp only [Act.put, List.setIfInBounds_toArray, List.set_cons_zero, List.set_cons_succ]) | (refine wpC_skip rfl (by rfl) ?_; simp only [Act.put, List.setIfInBounds_toArray, List.set_cons_zero, List.set_cons_succ]) | (refine wpC_skip' (RBut.refl_ _) rfl (by rfl) ?_; simp only [Act.put, List.setIfInBounds_toArray, List.set_cons_zero, List.set_cons_succ]))
  (refine wpC_loud rfl (by rfl) ?_; intro K hK; go_simp)
  refine (two_any a b HA.out HB.out w3).mono ?_
  rintro e w4 ⟨rfl, h4⟩
  have HS := Lib.hid (twoS_len a b)
  unfold hv
  (refine hK.out _ _ (RBut.of_below h4) ?_; clear hK K; try simp only [Act.put, List.setIfInBounds_toArray, List.set_cons_zero, List.set_cons_succ])
  have s4 := (bb3.to h4).sl (size := 1) (n := 32) (by rw [B8_len, HB.out])
  have o4 := o3.to h4
  have f4 := f3.trans (h4.mono (by have := bb3.lt; omega))
  have hs4 := h4.size
  refine wpC_loud rfl (by rfl) ?_
  intro K hK
  refine wp_app _ _ _ _ elB rfl rfl o4 rfl s4 (B8_one _) (by omega) (by omega) (by omega) ?_
  intro A5 c5 w5 g5
  (refine hK.out _ _ (g5.grow) ?_; clear hK K; try simp only [Act.put, List.setIfInBounds_toArray, List.set_cons_zero, List.set_cons_succ])
  have s5 := g5.own.sl
  rw [← B8_app] at s5
  have h5 := g5.below o4 (by omega)
  have ba5 := (ba3.to h4).below h5 (by omega)
  have bb5 := (bb3.to h4).below h5 (by omega)
  have f5 := f4.trans (h5.mono (by omega))
  have hs5 := h5.size
  clear g5 s4 o4 ba3 bb3 f4 h4 h5
  (refine wpC_loud rfl (by rfl) ?_; intro K hK; go_simp)
  refine (sum_any A5 _ c5 ([1] ++ a ++ b) w5 s5 (by omega)).mono ?_
  rintro e w6 ⟨rfl, h6⟩
  rw [show shaS ([1] ++ a ++ b) = twoS a b from rfl]
  unfold hv
  (refine hK.out _ _ (RBut.of_below h6) ?_; clear hK K; try simp only [Act.put, List.setIfInBounds_toArray, List.set_cons_zero, List.set_cons_succ])
  have eqs := eq_self (twoS a b) HS.out
  have ba6 := ba5.to h6
  have bb6 := bb5.to h6
  have f6 := f5.trans (h6.mono (by have := bb5.lt; omega))
  clear s5 ba5 bb5 h6
  repeat (first | (refine wpC_quiet (v := ?_) rfl (by rfl) ?_ ?_; rotate_left; (· (intro w' hw'; go_simp; try with_reducible rfl)); simp only [Act.put, List.setIfInBounds_toArray, List.set_cons_zero, List.set_cons_succ]) | (refine wpC_val (v := ?_) (RBut.refl_ _) rfl (by rfl) ?_ ?_; rotate_left; (· (go_simp; try with_reducible rfl)); simp only [Act.put, List.setIfInBounds_toArray, List.set_cons_zero, List.set_cons_succ]) | (refine wpC_skip rfl (by rfl) ?_; simp only [Act.put, List.setIfInBounds_toArray, List.set_cons_zero, List.set_cons_succ]) | (refine wpC_skip' (RBut.refl_ _) rfl (by rfl) ?_; simp only [Act.put, List.setIfInBounds_toArray, List.set_cons_zero, List.set_cons_succ]))
  have hlt6 := bb6.lt
  have ra := rng (R := RBut (A2.map (·.block))) ba6 (fun _ h => h) (HNE.out _ (by omega))
  have rb := rng (R := RBut (A2.map (·.block))) bb6 (fun _ h => h) (HNE.out _ (by omega))
  refine wpC_load rfl (by rfl) _ _ rfl (N + 1) 0 rfl (B8 b) _ rb Try.underlying26 rfl (info_hash HB.out) ?_
  simp only [Act.put, List.setIfInBounds_toArray, List.set_cons_zero, List.set_cons_succ]
  refine wpC_load rfl (by rfl) _ _ rfl N 0 rfl (B8 a) _ ra Try.underlying26 rfl (info_hash HA.out) ?_
  simp only [Act.put, List.setIfInBounds_toArray, List.set_cons_zero, List.set_cons_succ]
  refine wpC_load rfl (by rfl) _ _ rfl (N + 1) 0 rfl (B8 b) _ rb Try.underlying26 rfl (info_hash HB.out) ?_
  simp only [Act.put, List.setIfInBounds_toArray, List.set_cons_zero, List.set_cons_succ]
  refine wpC_load rfl (by rfl) _ _ rfl N 0 rfl (B8 a) _ ra Try.underlying26 rfl (info_hash HA.out) ?_
  simp only [Act.put, List.setIfInBounds_toArray, List.set_cons_zero, List.set_cons_succ]
  clear ra rb eqs
  (refine wpC_loud rfl (by rfl) ?_; intro K hK; go_simp)
  refine (two_any b a HB.out HA.out w6).mono ?_
  rintro e w7 ⟨rfl, h7⟩
  unfold hv
  (refine hK.out _ _ (RBut.of_below h7) ?_; clear hK K; try simp only [Act.put, List.setIfInBounds_toArray, List.set_cons_zero, List.set_cons_succ])
  (refine wpC_loud rfl (by rfl) ?_; intro K hK; go_simp)
  refine (refTwo_any b a HB.out HA.out w7).mono ?_
  rintro e w8 ⟨rfl, h8⟩
  unfold hv
  (refine hK.out _ _ (RBut.of_below h8) ?_; clear hK K; try simp only [Act.put, List.setIfInBounds_toArray, List.set_cons_zero, List.set_cons_succ])
  have eqs := eq_self (twoS b a) (twoS_len b a)
  have f7 := f6.trans (h7.mono (by omega))
  have f8 := f7.trans (h8.mono (by have := h7.size; omega))
  repeat (first | (refine wpC_quiet (v := ?_) rfl (by rfl) ?_ ?_; rotate_left; (· (intro w' hw'; go_simp; try with_reducible rfl)); simp only [Act.put, List.setIfInBounds_toArray, List.set_cons_zero, List.set_cons_succ]) | (refine wpC_val (v := ?_) (RBut.refl_ _) rfl (by rfl) ?_ ?_; rotate_left; (· (go_simp; try with_reducible rfl)); simp only [Act.put, List.setIfInBounds_toArray, List.set_cons_zero, List.set_cons_succ]) | (refine wpC_skip rfl (by rfl) ?_; simp only [Act.put, List.setIfInBounds_toArray, List.set_cons_zero, List.set_cons_succ]) | (refine wpC_skip' (RBut.refl_ _) rfl (by rfl) ?_; simp only [Act.put, List.setIfInBounds_toArray, List.set_cons_zero, List.set_cons_succ]))
  refine wpC_nil ?_
  go_wp2_with fail
  go_ret
  exact ⟨rfl, by rw [HN.out]; exact f8⟩
end Go.Proofs.Ytaaiembhdfgkjaa
