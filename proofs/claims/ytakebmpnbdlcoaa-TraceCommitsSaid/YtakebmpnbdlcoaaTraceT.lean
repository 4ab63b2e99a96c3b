/- Walks: the document's Verify; capstanlaw12.same. -/
import Derived.Test.YtakebmpnbdlcoaaTraceU
set_option linter.unusedSimpArgs false
set_option linter.unusedVariables false
namespace Go.Proofs.Ytakebmpnbdlcoaa
open Go.RowKit
set_option maxRecDepth 100000
set_option maxRecDepth 100000 in
set_option maxHeartbeats 4000000 in
theorem refVerify_any (root h : List UInt8) (n i : Int) (A : Option Addr) (m c : Nat) (path : List (List UInt8)) (w : World) (hr : root.length = 32) (hh : h.length = 32) (hl : ∀ x ∈ path, x.length = 32) (hlen : path.length = m) (hmc : m ≤ c) (hc : c ≤ maxLen) (sl : Sl w 32 A m (H8 path))
    (n1 : -9223372036854775808 ≤ n) (n2 : n < 9223372036854775808) (i1 : -9223372036854775808 ≤ i) (i2 : i < 9223372036854775808) :
    Calls Try.prog 38 #[hv root, .int .i64 n, .int .i64 i, hv h, .slice A m c] w (RB (verS root n i h path) w) := by
  unfold hv
  obtain ⟨W, HW, hbw, br, bh⟩ : ∃ W, Hid (W = (w.alloc (.cells (B8 root).toArray 27)).alloc (.cells (B8 h).toArray 27)) ∧ Below w.heap.size w W ∧
      Blk W w.heap.size 27 (B8 root) ∧ Blk W (w.heap.size + 1) 27 (B8 h) := by
    refine ⟨_, rfl, ((Below.refl _ _).alloc (Nat.le_refl _) _).alloc (by simp) _, ?_, ?_⟩
    · exact (Blk.new w (B8 root).toArray 27).to ((Below.refl _ _).alloc (Nat.le_refl _) _)
    · have := Blk.new (w.alloc (.cells (B8 root).toArray 27)) (B8 h).toArray 27
      simpa using this
  have HR := Lib.hid hr
  have HH := Lib.hid hh
  have HL := Lib.hid hl
  have HLN := Lib.hid hlen
  clear hr hh hl hlen
  by_cases hbad : ¬ (1 ≤ n ∧ n ≤ 1073741824 ∧ 0 ≤ i ∧ i < n)
  · have hv : verS root n i h path = false := by
      unfold verS
      rw [decide_eq_false_iff_not]
      intro hx
      exact hbad ⟨hx.1, hx.2.1, hx.2.2.1, hx.2.2.2.1⟩
    rw [hv]
    have hb4 : n < 1 ∨ ¬ n < 1 ∧ 1073741824 < n ∨ ¬ n < 1 ∧ ¬ 1073741824 < n ∧ i < 0 ∨ ¬ n < 1 ∧ ¬ 1073741824 < n ∧ ¬ i < 0 ∧ n ≤ i := by omega
    clear hv hbad
    go_enter Try.func38, Try.ntmps38
    go_upto_region 1 with fail
    refine wp_at HW.out ?_
    clear HW
    rcases hb4 with a1 | ⟨a1, a2⟩ | ⟨a1, a2, a3⟩ | ⟨a1, a2, a3, a4⟩
    all_goals
      go_wp2_with fail
      go_ret
      exact ⟨rfl, hbw⟩
  · obtain ⟨N, rfl⟩ : ∃ N : Nat, n = (N : Int) := ⟨n.toNat, by omega⟩
    obtain ⟨I, rfl⟩ : ∃ I : Nat, i = (I : Int) := ⟨i.toNat, by omega⟩
    have hgood : 1 ≤ (N : Int) ∧ (N : Int) ≤ 1073741824 ∧ 0 ≤ (I : Int) ∧ (I : Int) < (N : Int) := by omega
    clear hbad n1 n2 i1 i2
    obtain ⟨g1, g2, g3, g4⟩ := hgood
    have hver : verS root (N : Int) (I : Int) h path = decide (path.length = (sidesS N I).length ∧ foldUp (sidesS N I).reverse path h = root) := by
      unfold verS
      simp only [Int.toNat_natCast]
      rw [decide_eq_decide]
      exact ⟨fun hx => hx.2.2.2.2, fun hx => ⟨g1, g2, g3, g4, hx⟩⟩
    have HV := Lib.hid hver
    clear hver
    have a1 : ¬ (N : Int) < 1 := by omega
    have a2 : ¬ 1073741824 < (N : Int) := by omega
    have a3 : ¬ (I : Int) < 0 := by omega
    have a4 : ¬ (N : Int) ≤ (I : Int) := by omega
    have slW := sl.to hbw
    clear sl
    go_enter Try.func38, Try.ntmps38
    go_upto_region 1 with fail
    refine wp_at HW.out ?_
    clear HW
    go_wp2_with (first
      | (refine wpl_load_fld (by rfl) _ _ rfl (w.heap.size + 1) 0 rfl (B8 h) _ bh.range Try.underlying27 rfl (info_hash HH.out) ?_))
    refine (up_any N N I h A m c path W (Nat.le_refl _) (by omega) (by omega) HH.out HL.out HLN.out hmc hc slW (by omega)).mono ?_
    rintro e w1 ⟨x, rfl, hx, hf, h1⟩
    have HX := Lib.hid hx
    have HF := Lib.hid hf
    have br1 := br.to h1
    have f1 := hbw.trans (h1.mono hbw.size)
    clear hx hf br bh hbw h1 a1 a2 a3 a4 g1 g2 g3 g4 slW
    unfold hv
    by_cases hpl : path.length = (sidesS N I).length
    · have t5 : decide (path.length = (sidesS N I).length) = true := decide_eq_true hpl
      have HXF := Lib.hid (HF.out hpl)
      have HPL := Lib.hid hpl
      have eqx := eq_hash x root HX.out HR.out
      have hrl := br1.lt
      rw [t5]
      clear t5 hpl
      go_wp2_with (first
        | (refine wpl_store_new rfl _ _ _ rfl 27 _ (B8 x) rfl rfl (by rw [B8_len, HX.out]; rfl) (info_hash HX.out) (B8_one _) ?_
           intro w2 b2 h2
           have br2 := br1.to h2
           have f2 := f1.trans (h2.mono f1.size)
           simp only [Act.put])
        | (refine wpl_load_fld (by rfl) _ _ rfl w1.heap.size 0 rfl (B8 x) _ b2.range Try.underlying27 rfl (info_hash HX.out) ?_)
        | (refine wpl_load_fld (by rfl) _ _ rfl w.heap.size 0 rfl (B8 root) _ br2.range Try.underlying27 rfl (info_hash HR.out) ?_))
      go_ret
      refine ⟨?_, f2⟩
      rw [HV.out, HXF.out]
      have e : decide (path.length = (sidesS N I).length ∧ foldUp (sidesS N I).reverse path h = root) = decide (foldUp (sidesS N I).reverse path h = root) := by
        rw [decide_eq_decide]
        exact ⟨fun hx => hx.2, fun hx => ⟨HPL.out, hx⟩⟩
      rw [e]
      rfl
    · have t5 : decide (path.length = (sidesS N I).length) = false := decide_eq_false hpl
      have HPL := Lib.hid hpl
      rw [t5]
      clear t5 hpl
      go_wp2_with (first
        | (refine wpl_store_new rfl _ _ _ rfl 27 _ (B8 x) rfl rfl (by rw [B8_len, HX.out]; rfl) (info_hash HX.out) (B8_one _) ?_
           intro w2 b2 h2
           have f2 := f1.trans (h2.mono f1.size)
           simp only [Act.put]))
      go_ret
      refine ⟨?_, f2⟩
      rw [HV.out]
      have e : decide (path.length = (sidesS N I).length ∧ foldUp (sidesS N I).reverse path h = root) = false := by
        rw [decide_eq_false_iff_not]
        exact fun hx => HPL.out hx.1
      rw [e]
      rfl
set_option maxRecDepth 100000 in
set_option maxHeartbeats 4000000 in
theorem same_any (A B : Option Addr) (n m c d : Nat) (a b : List (List UInt8)) (w : World) (ha : ∀ x ∈ a, x.length = 32) (hb : ∀ x ∈ b, x.length = 32) (la : a.length = n) (lb : b.length = m) (hn : n ≤ 1073741824) (sa : Sl w 32 A n (H8 a)) (sb : Sl w 32 B m (H8 b)) (hab : a = b) :
    Calls Try.prog 36 #[.slice A n c, .slice B m d] w (RB true w) := by
  subst hab
  obtain rfl : n = m := by omega
  have HA := Lib.hid ha
  have HLA := Lib.hid la
  clear ha hb la lb
  go_enter Try.func36, Try.ntmps36
  go_wp2_with fail
  go_loopw [5] (fun k wr => ∃ q : Nat, k = .int .i64 (q : Int) ∧ q ≤ n ∧ Below w.heap.size w wr) (fun k _ => n - (intOf k).toNat)
  case atStart => exact ⟨0, rfl, Nat.zero_le _, Below.refl _ _⟩
  case round =>
    obtain ⟨q, rfl, hq, hbr⟩ := hrel
    by_cases hlt : q < n
    · have t1 : (q : Int) < (n : Int) := by omega
      obtain ⟨x, hx⟩ : ∃ x, a[q]? = some x := ⟨_, List.getElem?_eq_getElem (by rw [HLA.out]; exact hlt)⟩
      have HX := Lib.hid (HA.out x (List.mem_of_getElem? hx))
      obtain ⟨ab, ao, rfl, hab⟩ := sa.some_ (by omega)
      obtain ⟨bb, bo, rfl, hbb⟩ := sb.some_ (by omega)
      have f2 := hbr.drew
      have ra : ∀ w', Below wr.drew.heap.size wr.drew w' → w'.rangeAt ab (ao + q * 32) (B8 x) := fun w' hw' => ((sa.to f2).to hw').range32 HA.out q x hx
      have rb : ∀ w', Below wr.drew.heap.size wr.drew w' → w'.rangeAt bb (bo + q * 32) (B8 x) := fun w' hw' => ((sb.to f2).to hw').range32 HA.out q x hx
      clear hx
      go_wp2_with fail
      refine wp_region_C [(0, true), (1, true), (2, true), (4, true), (5, true), (6, true), (3, true), (7, false), (8, false)] RBel (by kernel_rfl) (by kernel_rfl) (by kernel_rfl) (by decide) RBel.refl_ RBel.trans_ (by intro d v c a w h; cases d <;> exact h) ?_
      have eqx : ∀ w, (Op.equalIn 10000 27 (.agg (B8 x).toArray) (.agg (B8 x).toArray)).run Try.prog w = .ok true w := fun w => by
        rw [eq_hash x x HX.out HX.out w]
        simp
      generalize wr.drew = V at *
      repeat (first | (refine wpC_quiet (v := ?_) rfl (by rfl) ?_ ?_; rotate_left; (· (intro w' hw'; go_simp; try with_reducible rfl)); simp only [Act.put, List.setIfInBounds_toArray, List.set_cons_zero, List.set_cons_succ]) | (refine wpC_val (v := ?_) (RBel.refl_) rfl (by rfl) ?_ ?_; rotate_left; (· (go_simp; try with_reducible rfl)); simp only [Act.put, List.setIfInBounds_toArray, List.set_cons_zero, List.set_cons_succ]) | (refine wpC_skip rfl (by rfl) ?_; simp only [Act.put, List.setIfInBounds_toArray, List.set_cons_zero, List.set_cons_succ]) | (refine wpC_skip' (RBel.refl_) rfl (by rfl) ?_; simp only [Act.put, List.setIfInBounds_toArray, List.set_cons_zero, List.set_cons_succ]))
      refine wpC_load rfl (by rfl) _ _ rfl ab (ao + q * 32) rfl (B8 x) _ ra Try.underlying27 rfl (info_hash HX.out) ?_
      simp only [Act.put, List.setIfInBounds_toArray, List.set_cons_zero, List.set_cons_succ]
      refine wpC_load_f RBel.refl_ rfl (by rfl) _ _ rfl bb (bo + q * 32) rfl (B8 x) _ (rb V (Below.refl _ _)) Try.underlying27 rfl (info_hash HX.out) ?_
      simp only [Act.put, List.setIfInBounds_toArray, List.set_cons_zero, List.set_cons_succ]
      clear ra rb
      repeat (first | (refine wpC_quiet (v := ?_) rfl (by rfl) ?_ ?_; rotate_left; (· (intro w' hw'; go_simp; try with_reducible rfl)); simp only [Act.put, List.setIfInBounds_toArray, List.set_cons_zero, List.set_cons_succ]) | (refine wpC_val (v := ?_) (RBel.refl_) rfl (by rfl) ?_ ?_; rotate_left; (· (go_simp; try with_reducible rfl)); simp only [Act.put, List.setIfInBounds_toArray, List.set_cons_zero, List.set_cons_succ]) | (refine wpC_skip rfl (by rfl) ?_; simp only [Act.put, List.setIfInBounds_toArray, List.set_cons_zero, List.set_cons_succ]) | (refine wpC_skip' (RBel.refl_) rfl (by rfl) ?_; simp only [Act.put, List.setIfInBounds_toArray, List.set_cons_zero, List.set_cons_succ]))
      refine wpC_nil ?_
      go_wp2_with fail
      go_roundw
      case rel => exact ⟨q + 1, by go_num, by omega, f2⟩
      case measure => simp [intOf]; omega
    · have t1 : ¬ (q : Int) < (n : Int) := by omega
      go_wp2_with fail
      go_ret
      exact ⟨rfl, hbr⟩
end Go.Proofs.Ytakebmpnbdlcoaa
