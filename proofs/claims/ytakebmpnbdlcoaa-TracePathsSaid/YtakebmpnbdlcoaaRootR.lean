/- Walks: the document's tree: over; the root of leaves. -/
import Derived.Test.YtakebmpnbdlcoaaRefTwo
import Derived.Test.YtakebmpnbdlcoaaGameW
set_option linter.unusedSimpArgs false
set_option linter.unusedVariables false
namespace Go.Proofs.Ytakebmpnbdlcoaa
open Go.RowKit
set_option maxRecDepth 100000
/-- what stands above two sums -/
def overS (a b : List UInt8) : List UInt8 := if a = zero32 ∧ b = zero32 then zero32 else twoS a b
theorem overS_len (a b : List UInt8) : (overS a b).length = 32 := by
  unfold overS
  split
  · rfl
  · exact twoS_len a b
theorem built_zero_ : Try.prog.built 27 [] = some (B8 zero32).toArray := by kernel_rfl
theorem zero_alloc : (#[.int .u8 0, .int .u8 0, .int .u8 0, .int .u8 0, .int .u8 0, .int .u8 0, .int .u8 0, .int .u8 0, .int .u8 0, .int .u8 0, .int .u8 0, .int .u8 0, .int .u8 0, .int .u8 0, .int .u8 0, .int .u8 0, .int .u8 0, .int .u8 0, .int .u8 0, .int .u8 0, .int .u8 0, .int .u8 0, .int .u8 0, .int .u8 0, .int .u8 0, .int .u8 0, .int .u8 0, .int .u8 0, .int .u8 0, .int .u8 0, .int .u8 0, .int .u8 0] : Array Value) = (B8 zero32).toArray := rfl
set_option maxRecDepth 100000 in
set_option maxHeartbeats 1000000 in
theorem refOver_any (a b : List UInt8) (ha : a.length = 32) (hb : b.length = 32) (w : World) :
    Calls Try.prog 48 #[hv a, hv b] w fun e w' => e = .returned (hv (overS a b)) ∧ Below w.heap.size w w' := by
  unfold hv
  obtain ⟨W, HW, hbw, ba, bb, bz⟩ : ∃ W, Hid (W = ((w.alloc (.cells (B8 a).toArray 27)).alloc (.cells (B8 b).toArray 27)).alloc (.cells #[.int .u8 0, .int .u8 0, .int .u8 0, .int .u8 0, .int .u8 0, .int .u8 0, .int .u8 0, .int .u8 0, .int .u8 0, .int .u8 0, .int .u8 0, .int .u8 0, .int .u8 0, .int .u8 0, .int .u8 0, .int .u8 0, .int .u8 0, .int .u8 0, .int .u8 0, .int .u8 0, .int .u8 0, .int .u8 0, .int .u8 0, .int .u8 0, .int .u8 0, .int .u8 0, .int .u8 0, .int .u8 0, .int .u8 0, .int .u8 0, .int .u8 0, .int .u8 0] 27)) ∧ Below w.heap.size w W ∧
      Blk W w.heap.size 27 (B8 a) ∧ Blk W (w.heap.size + 1) 27 (B8 b) ∧ Blk W (w.heap.size + 2) 27 (B8 zero32) := by
    refine ⟨_, rfl, (((Below.refl _ _).alloc (Nat.le_refl _) _).alloc (by simp) _).alloc (by simp; omega) _, ?_, ?_, ?_⟩
    · exact (Blk.new w (B8 a).toArray 27).to (((Below.refl _ _).alloc (Nat.le_refl _) _).alloc (by simp) _)
    · have := (Blk.new (w.alloc (.cells (B8 a).toArray 27)) (B8 b).toArray 27).to ((Below.refl _ _).alloc (Nat.le_refl _) (.cells #[.int .u8 0, .int .u8 0, .int .u8 0, .int .u8 0, .int .u8 0, .int .u8 0, .int .u8 0, .int .u8 0, .int .u8 0, .int .u8 0, .int .u8 0, .int .u8 0, .int .u8 0, .int .u8 0, .int .u8 0, .int .u8 0, .int .u8 0, .int .u8 0, .int .u8 0, .int .u8 0, .int .u8 0, .int .u8 0, .int .u8 0, .int .u8 0, .int .u8 0, .int .u8 0, .int .u8 0, .int .u8 0, .int .u8 0, .int .u8 0, .int .u8 0, .int .u8 0] 27))
      simpa using this
    · have := Blk.new ((w.alloc (.cells (B8 a).toArray 27)).alloc (.cells (B8 b).toArray 27)) #[.int .u8 0, .int .u8 0, .int .u8 0, .int .u8 0, .int .u8 0, .int .u8 0, .int .u8 0, .int .u8 0, .int .u8 0, .int .u8 0, .int .u8 0, .int .u8 0, .int .u8 0, .int .u8 0, .int .u8 0, .int .u8 0, .int .u8 0, .int .u8 0, .int .u8 0, .int .u8 0, .int .u8 0, .int .u8 0, .int .u8 0, .int .u8 0, .int .u8 0, .int .u8 0, .int .u8 0, .int .u8 0, .int .u8 0, .int .u8 0, .int .u8 0, .int .u8 0] 27
      rw [show ((w.alloc (.cells (B8 a).toArray 27)).alloc (.cells (B8 b).toArray 27)).heap.size = w.heap.size + 2 from by simp] at this
      exact this
  have e1 := eq_hash a zero32 ha rfl
  have e2 := eq_hash b zero32 hb rfl
  have HA := Lib.hid ha
  have HB := Lib.hid hb
  clear ha hb
  by_cases h1 : a = zero32
  · rw [decide_eq_true h1] at e1
    by_cases h2 : b = zero32
    · rw [decide_eq_true h2] at e2
      have HO : Hid (overS a b = a) := (by show _ = _; unfold overS; rw [if_pos ⟨h1, h2⟩, h1])
      clear h1 h2
      go_enter Try.func48, Try.ntmps48
      go_upto_region 1 with fail
      refine wp_at HW.out ?_
      clear HW
      go_wp2_with (first
        | (refine wpl_load_fld (by rfl) _ _ rfl w.heap.size 0 rfl (B8 a) _ ba.range Try.underlying27 rfl (info_hash HA.out) ?_)
        | (refine wpl_load_fld (by rfl) _ _ rfl (w.heap.size + 1) 0 rfl (B8 b) _ bb.range Try.underlying27 rfl (info_hash HB.out) ?_)
        | (refine wpl_build (by rfl) _ _ rfl _ built_zero_ ?_)
        | (refine wpl_store_fld (by rfl) _ _ _ rfl (w.heap.size + 2) 0 _ _ (B8 a) rfl _ rfl rfl bz (by rw [B8_len, HA.out]; exact Nat.le_refl _) (info_hash HA.out) (B8_one _) ?_
           intro w1 bz1 bu1
           rw [put_all _ _ (by rw [B8_len, HA.out]; rfl)] at bz1))
      refine bodyPost_ret (v := .agg (B8 (overS a b)).toArray) ?_ rfl ⟨rfl, hbw.trans (below_but bu1 (by omega) hbw.size)⟩
      rw [HO.out]
      exact results_blk Try.results48 rfl bz1 Try.underlying27 rfl (info_hash HA.out)
    · rw [decide_eq_false h2] at e2
      have HO : Hid (overS a b = twoS a b) := (by show _ = _; unfold overS; rw [if_neg (fun h => h2 h.2)])
      clear h1 h2
      go_enter Try.func48, Try.ntmps48
      go_upto_region 1 with fail
      refine wp_at HW.out ?_
      clear HW
      go_wp2_with (first
        | (refine wpl_load_fld (by rfl) _ _ rfl w.heap.size 0 rfl (B8 a) _ ba.range Try.underlying27 rfl (info_hash HA.out) ?_)
        | (refine wpl_load_fld (by rfl) _ _ rfl (w.heap.size + 1) 0 rfl (B8 b) _ bb.range Try.underlying27 rfl (info_hash HB.out) ?_)
        | (refine wpl_build (by rfl) _ _ rfl _ built_zero_ ?_))
      refine (refTwo_any a b HA.out HB.out _).mono ?_
      rintro e w1 ⟨rfl, hb1⟩
      have bz1 := bz.to hb1
      have f1 := hbw.trans (hb1.mono hbw.size)
      unfold hv
      go_wp2_with (first
        | (refine wpl_store_fld (by rfl) _ _ _ rfl (w.heap.size + 2) 0 _ _ (B8 (twoS a b)) rfl _ rfl rfl bz1 (by rw [B8_len, twoS_len]; exact Nat.le_refl _) (info_hash (twoS_len _ _)) (B8_one _) ?_
           intro w2 bz2 bu2
           rw [put_all _ _ (by rw [B8_len, twoS_len]; rfl)] at bz2))
      refine bodyPost_ret (v := .agg (B8 (overS a b)).toArray) ?_ rfl ⟨rfl, f1.trans (below_but bu2 (by omega) f1.size)⟩
      rw [HO.out]
      exact results_blk Try.results48 rfl bz2 Try.underlying27 rfl (info_hash (twoS_len _ _))
  · rw [decide_eq_false h1] at e1
    have HO : Hid (overS a b = twoS a b) := (by show _ = _; unfold overS; rw [if_neg (fun h => h1 h.1)])
    clear h1
    go_enter Try.func48, Try.ntmps48
    go_upto_region 1 with fail
    refine wp_at HW.out ?_
    clear HW
    go_wp2_with (first
      | (refine wpl_load_fld (by rfl) _ _ rfl w.heap.size 0 rfl (B8 a) _ ba.range Try.underlying27 rfl (info_hash HA.out) ?_)
      | (refine wpl_load_fld (by rfl) _ _ rfl (w.heap.size + 1) 0 rfl (B8 b) _ bb.range Try.underlying27 rfl (info_hash HB.out) ?_)
      | (refine wpl_build (by rfl) _ _ rfl _ built_zero_ ?_))
    refine (refTwo_any a b HA.out HB.out _).mono ?_
    rintro e w1 ⟨rfl, hb1⟩
    have bz1 := bz.to hb1
    have f1 := hbw.trans (hb1.mono hbw.size)
    unfold hv
    go_wp2_with (first
      | (refine wpl_store_fld (by rfl) _ _ _ rfl (w.heap.size + 2) 0 _ _ (B8 (twoS a b)) rfl _ rfl rfl bz1 (by rw [B8_len, twoS_len]; exact Nat.le_refl _) (info_hash (twoS_len _ _)) (B8_one _) ?_
         intro w2 bz2 bu2
         rw [put_all _ _ (by rw [B8_len, twoS_len]; rfl)] at bz2))
    refine bodyPost_ret (v := .agg (B8 (overS a b)).toArray) ?_ rfl ⟨rfl, f1.trans (below_but bu2 (by omega) f1.size)⟩
    rw [HO.out]
    exact results_blk Try.results48 rfl bz2 Try.underlying27 rfl (info_hash (twoS_len _ _))
end Go.Proofs.Ytakebmpnbdlcoaa
