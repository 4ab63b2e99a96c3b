/- The walk of capstanref2.Two. -/
import Derived.Test.YtakebmpnbdlcoaaRefSum2
import Derived.Test.YtakebmpnbdlcoaaTwo
set_option linter.unusedSimpArgs false
set_option linter.unusedVariables false
namespace Go.Proofs.Ytakebmpnbdlcoaa
open Go.RowKit
set_option maxRecDepth 100000
set_option maxHeartbeats 1000000 in
theorem refTwo_any (a b : List UInt8) (ha : a.length = 32) (hb : b.length = 32) (w : World) :
    Calls Try.prog 40 #[hv a, hv b] w fun e w' => e = .returned (hv (twoS a b)) ∧ Below w.heap.size w w' := by
  unfold hv
  obtain ⟨W, hW⟩ : ∃ W, W = ((w.alloc (.cells (B8 a).toArray 27)).alloc (.cells (B8 b).toArray 27)).alloc (.cells #[.int .u8 0, .int .u8 0, .int .u8 0, .int .u8 0, .int .u8 0, .int .u8 0, .int .u8 0, .int .u8 0, .int .u8 0, .int .u8 0, .int .u8 0, .int .u8 0, .int .u8 0, .int .u8 0, .int .u8 0, .int .u8 0, .int .u8 0, .int .u8 0, .int .u8 0, .int .u8 0, .int .u8 0, .int .u8 0, .int .u8 0, .int .u8 0, .int .u8 0, .int .u8 0, .int .u8 0, .int .u8 0, .int .u8 0, .int .u8 0, .int .u8 0, .int .u8 0] 27) := ⟨_, rfl⟩
  have hbw : Below w.heap.size w W := by
    subst hW
    exact (((Below.refl _ _).alloc (Nat.le_refl _) _).alloc (by simp) _).alloc (by simp; omega) _
  have ba : Blk W w.heap.size 27 (B8 a) := by
    subst hW
    exact (Blk.new w (B8 a).toArray 27).to (((Below.refl _ _).alloc (Nat.le_refl _) _).alloc (by simp) _)
  have bb : Blk W (w.heap.size + 1) 27 (B8 b) := by
    subst hW
    have := (Blk.new (w.alloc (.cells (B8 a).toArray 27)) (B8 b).toArray 27).to ((Below.refl _ _).alloc (Nat.le_refl _) (.cells #[.int .u8 0, .int .u8 0, .int .u8 0, .int .u8 0, .int .u8 0, .int .u8 0, .int .u8 0, .int .u8 0, .int .u8 0, .int .u8 0, .int .u8 0, .int .u8 0, .int .u8 0, .int .u8 0, .int .u8 0, .int .u8 0, .int .u8 0, .int .u8 0, .int .u8 0, .int .u8 0, .int .u8 0, .int .u8 0, .int .u8 0, .int .u8 0, .int .u8 0, .int .u8 0, .int .u8 0, .int .u8 0, .int .u8 0, .int .u8 0, .int .u8 0, .int .u8 0] 27))
    simpa using this
  have bz : Blk W (w.heap.size + 2) 27 (B8 (List.replicate 32 0)) := by
    subst hW
    have := Blk.new ((w.alloc (.cells (B8 a).toArray 27)).alloc (.cells (B8 b).toArray 27)) #[.int .u8 0, .int .u8 0, .int .u8 0, .int .u8 0, .int .u8 0, .int .u8 0, .int .u8 0, .int .u8 0, .int .u8 0, .int .u8 0, .int .u8 0, .int .u8 0, .int .u8 0, .int .u8 0, .int .u8 0, .int .u8 0, .int .u8 0, .int .u8 0, .int .u8 0, .int .u8 0, .int .u8 0, .int .u8 0, .int .u8 0, .int .u8 0, .int .u8 0, .int .u8 0, .int .u8 0, .int .u8 0, .int .u8 0, .int .u8 0, .int .u8 0, .int .u8 0] 27
    rw [show ((w.alloc (.cells (B8 a).toArray 27)).alloc (.cells (B8 b).toArray 27)).heap.size = w.heap.size + 2 from by simp] at this
    exact this
  have HW := Lib.hid hW
  have HA := Lib.hid ha
  have HB := Lib.hid hb
  clear hW ha hb
  go_enter Try.func40, Try.ntmps40
  go_upto_region 1 with fail
  refine wp_at HW.out ?_
  clear HW
  generalize hN : w.heap.size = N at *
  have HN := Lib.hid hN
  clear hN
  have hzl := bz.lt
  have s2 := (ba.sl (size := 1) (n := 32) (by rw [B8_len, HA.out]))
  have s3 := (bb.sl (size := 1) (n := 32) (by rw [B8_len, HB.out]))
  have o1 := Own.made (size := 1) (n := 1) W W.heap.size 5 #[.int .u8 1] (Nat.le_refl _) (by decide) rfl
  go_upto_region 2 with (first
    | (at_builtin
       refine wpl_app _ _ _ _ elB rfl rfl rfl o1 rfl (s2.alloc _) (B8_one _) (by omega) (by omega) (by simp) ?_
       intro A1 c1 w1 g1))
  have o2 : Own w1 W.heap.size 5 1 A1 33 c1 (B8 ([1] ++ a)) := by have := g1.own; rw [B8_app]; exact this
  have hzW : N + 2 < W.heap.size := hzl
  have hb1 : Below W.heap.size W w1 := ((Below.refl _ _).alloc (Nat.le_refl _) _).trans (g1.below o1 (by simp))
  have s31 := s3.to hb1
  have hs1 := hb1.size
  clear g1 o1 s2 s3 ba bb
  go_wp2_with (first
    | (at_builtin
       refine wpl_app _ _ _ _ elB rfl rfl rfl o2 rfl s31 (B8_one _) (by omega) (by omega) (by omega) ?_
       intro A2 c2 w2 g2))
  have s4 := g2.own.sl
  rw [← B8_app] at s4
  have hb2 : Below W.heap.size W w2 := hb1.trans (g2.below o2 (by omega))
  have bz2 := bz.to hb2
  clear g2 o2 s31 hb1 bz
  refine (refSum_any A2 _ c2 ([1] ++ a ++ b) w2 s4 (by omega)).mono ?_
  rintro e w4 ⟨rfl, h4⟩
  have hl := twoS_len a b
  obtain ⟨sm, hsm⟩ : ∃ sm, sm = twoS a b := ⟨_, rfl⟩
  rw [show shaS ([1] ++ a ++ b) = twoS a b from rfl]
  rw [← hsm] at hl ⊢
  unfold hv
  have HS := Lib.hid hl
  have HT := Lib.hid hsm.symm
  clear hl hsm
  have hb4 := hb2.trans (h4.mono hb2.size)
  have bz4 := bz2.to h4
  have h4s := hb4.size
  go_wp2_with (first
    | (refine wpl_store_blk rfl _ _ _ rfl (N + 2) 27 (B8 (List.replicate 32 0)) (B8 sm) rfl rfl bz4 (by rw [B8_len, B8_len, HS.out]; rfl) (info_hash HS.out) (B8_one _) ?_; intro w9 b9 hb9))
  exact bodyPost_ret (v := hv sm) (results_blk Try.results40 rfl b9 Try.underlying27 rfl (info_hash HS.out)) rfl ⟨by rw [HT.out]; rfl, by
    rw [HN.out]
    exact (hbw.trans (hb4.mono (by omega))).trans (below_but hb9 (by omega) (by omega))⟩
end Go.Proofs.Ytakebmpnbdlcoaa
