/- The texts of this claim, part H: words, plain laws, walks. -/
import Derived.Test.YtakebmpnbdlcoaaPartG
import Derived.Test.YtakebmpnbdlcoaaPartA
import Derived.Deep.MidRow
import Derived.Test.YtakebmpnbdlcoaaPartE
import Derived.Test.YtakebmpnbdlcoaaPartB
import Derived.Test.YtakebmpnbdlcoaaPartF
/- Walks: where a leaf leads to, the document's (capstanref7.Up). -/
set_option linter.unusedSimpArgs false
set_option linter.unusedVariables false
namespace Go.Proofs.Ytakebmpnbdlcoaa
open Go.RowKit
set_option maxRecDepth 100000
set_option maxRecDepth 100000 in
set_option maxHeartbeats 2000000 in
theorem refUp_any (a : Acc) (hw : a.wf) (p : List (List UInt8)) (hp : p.length = 8) (hpa : ∀ x ∈ p, x.length = 32) (w : World) :
    Calls Try.prog 27 #[accV a, pv p] w fun e w' => e = .returned (hv (upA a p)) ∧ Below w.heap.size w w' := by
  unfold accV pv
  obtain ⟨W, HW, hbw, ba, bp, bz⟩ : ∃ W, Hid (W = ((w.alloc (.cells (accC a).toArray 23)).alloc (.cells (H8 p).toArray 43)).alloc (.cells #[.int .u8 0, .int .u8 0, .int .u8 0, .int .u8 0, .int .u8 0, .int .u8 0, .int .u8 0, .int .u8 0, .int .u8 0, .int .u8 0, .int .u8 0, .int .u8 0, .int .u8 0, .int .u8 0, .int .u8 0, .int .u8 0, .int .u8 0, .int .u8 0, .int .u8 0, .int .u8 0, .int .u8 0, .int .u8 0, .int .u8 0, .int .u8 0, .int .u8 0, .int .u8 0, .int .u8 0, .int .u8 0, .int .u8 0, .int .u8 0, .int .u8 0, .int .u8 0] 27)) ∧ Below w.heap.size w W ∧
      Blk W w.heap.size 23 (accC a) ∧ Blk W (w.heap.size + 1) 43 (H8 p) ∧ Blk W (w.heap.size + 2) 27 (B8 zero32) := by
    refine ⟨_, rfl, (((Below.refl _ _).alloc (Nat.le_refl _) _).alloc (by simp) _).alloc (by simp; omega) _, ?_, ?_, ?_⟩
    · exact (Blk.new w (accC a).toArray 23).to (((Below.refl _ _).alloc (Nat.le_refl _) _).alloc (by simp) _)
    · have := (Blk.new (w.alloc (.cells (accC a).toArray 23)) (H8 p).toArray 43).to ((Below.refl _ _).alloc (Nat.le_refl _) (.cells #[.int .u8 0, .int .u8 0, .int .u8 0, .int .u8 0, .int .u8 0, .int .u8 0, .int .u8 0, .int .u8 0, .int .u8 0, .int .u8 0, .int .u8 0, .int .u8 0, .int .u8 0, .int .u8 0, .int .u8 0, .int .u8 0, .int .u8 0, .int .u8 0, .int .u8 0, .int .u8 0, .int .u8 0, .int .u8 0, .int .u8 0, .int .u8 0, .int .u8 0, .int .u8 0, .int .u8 0, .int .u8 0, .int .u8 0, .int .u8 0, .int .u8 0, .int .u8 0] 27))
      simpa using this
    · have := Blk.new ((w.alloc (.cells (accC a).toArray 23)).alloc (.cells (H8 p).toArray 43)) #[.int .u8 0, .int .u8 0, .int .u8 0, .int .u8 0, .int .u8 0, .int .u8 0, .int .u8 0, .int .u8 0, .int .u8 0, .int .u8 0, .int .u8 0, .int .u8 0, .int .u8 0, .int .u8 0, .int .u8 0, .int .u8 0, .int .u8 0, .int .u8 0, .int .u8 0, .int .u8 0, .int .u8 0, .int .u8 0, .int .u8 0, .int .u8 0, .int .u8 0, .int .u8 0, .int .u8 0, .int .u8 0, .int .u8 0, .int .u8 0, .int .u8 0, .int .u8 0] 27
      rw [show ((w.alloc (.cells (accC a).toArray 23)).alloc (.cells (H8 p).toArray 43)).heap.size = w.heap.size + 2 from by simp] at this
      exact this
  have HWF := Lib.hid hw
  have HPL := Lib.hid hp
  have HPA := Lib.hid hpa
  have IPP := Lib.hid (info_rpath hp hpa)
  have hWz := bz.lt
  obtain ⟨-, c0, c1, c2, c3⟩ := acc_cells ba
  clear hw hp hpa
  by_cases hin : 0 ≤ a.id ∧ a.id < 256
  · have HU : Hid (upA a p = upL p a.id.toNat (leafS a)) := (show _ = _ by unfold upA; rw [if_pos hin])
    obtain ⟨k0, hk0⟩ : ∃ k : Nat, a.id = (k : Int) := ⟨a.id.toNat, by omega⟩
    have hk256 : k0 < 256 := by omega
    have t0 : ¬ a.id < 0 := by omega
    have t00 : a.id < 256 := by omega
    have HK0 := Lib.hid hk0
    clear hk0 hin
    go_enter Try.func27, Try.ntmps27
    go_upto_region 1 with fail
    refine wp_at HW.out ?_
    clear HW
    go_wp2_with fail
    refine (refLeaf_any a HWF.out W).mono ?_
    rintro e w1 ⟨rfl, hb1⟩
    have HLL := Lib.hid (leafS_len a)
    have ba1 := ba.to hb1
    have bp1 := bp.to hb1
    have bz1 := bz.to hb1
    have f1 := hbw.trans (hb1.mono hbw.size)
    have hw1 := hb1.size
    unfold hv
    clear ba bp bz hbw hb1 c0 c1 c2 c3
    go_wp2_with (first
      | (refine wpl_store_new rfl _ _ _ rfl 27 _ (B8 (leafS a)) rfl rfl (by rw [B8_len, HLL.out]; rfl) (info_hash HLL.out) (B8_one _) ?_
         intro w2 b2 hb2
         simp only [Act.put, List.setIfInBounds_toArray, List.set_cons_zero, List.set_cons_succ]
         have bp2 := bp1.to hb2))
    go_loopw [5, 7] (fun id k wr => ∃ (q : Nat) (cur : List UInt8), id = .int .i64 ((k0 / 2 ^ q : Nat) : Int) ∧ k = .int .i64 (q : Int) ∧ q ≤ 8 ∧ Hid (cur.length = 32) ∧ Hid (upL p k0 (leafS a) = upL (p.drop q) (k0 / 2 ^ q) cur) ∧ Blk wr w1.heap.size 27 (B8 cur) ∧ RBut (some w1.heap.size) w2 wr) (fun _ k _ => 8 - (intOf k).toNat)
    case atStart => exact ⟨0, leafS a, by rw [HK0.out, Nat.pow_zero, Nat.div_one], rfl, Nat.zero_le _, HLL, (show _ = _ by rw [Nat.pow_zero, Nat.div_one, List.drop_zero]), b2, RBut.refl_ _ _⟩
    case round =>
      clear b2
      obtain ⟨q, cur, rfl, rfl, hq, HCL, hrel, bc, hbu⟩ := hrel
      have hm256 : k0 / 2 ^ q < 256 := Nat.lt_of_le_of_lt (Nat.div_le_self _ _) hk256
      obtain ⟨m, hm⟩ : ∃ m, m = k0 / 2 ^ q := ⟨_, rfl⟩
      rw [← hm] at hm256 ⊢
      have HMQ := Lib.hid hm
      have hmm : ((m : Int)) / 2 = ((k0 / 2 ^ (q + 1) : Nat) : Int) := by
        rw [hm, Nat.pow_succ, ← Nat.div_div_eq_div_mul]
        rfl
      have HMM := Lib.hid hmm
      clear hm hmm
      by_cases hlt : q < 8
      · have t1 : (q : Int) < 8 := by omega
        obtain ⟨x, hx⟩ : ∃ x, p[q]? = some x := ⟨_, List.getElem?_eq_getElem (by rw [HPL.out]; exact hlt)⟩
        have HX := Lib.hid hx
        have HXL := Lib.hid (HPA.out x (List.mem_of_getElem? hx))
        have hb2s := hb2.size
        have hbus := hbu.size
        have bpr := bp2.but hbu (by intro e; injection e; omega)
        have rx : wr.drew.rangeAt (w.heap.size + 1) (q * 32) (B8 x) := Blk.sub (show Blk wr.drew (w.heap.size + 1) 43 (H8 p) from bpr) (q * 32) (B8 x) (by
          have := H8_at_ p HPA.out [] q x hx
          rwa [List.append_nil] at this)
        have bcd : Blk wr.drew w1.heap.size 27 (B8 cur) := bc
        have fd : RBut (some w1.heap.size) w2 wr.drew := RBut.trans_ _ _ _ _ hbu (RBut.of_below (Below.refl _ _).drew)
        clear hx
        by_cases hev : m % 2 = 0
        · have hev2 : (m : Int) % 2 = 0 := by omega
          have HEV : Hid (k0 / 2 ^ q % 2 = 0) := (show _ = _ by rw [← HMQ.out]; exact hev)
          clear hev
          have CE := Lib.hid (overS_len cur x)
          have HST : Hid (upL p k0 (leafS a) = upL (p.drop (q + 1)) (k0 / 2 ^ (q + 1)) (overS cur x)) := (show _ = _ by rw [hrel.out, upL_step p q k0 x cur HX.out, if_pos HEV.out])
          go_wp2_with fail
          refine wp_region_T [1, 2] 0 3 [(3, false), (4, false), (5, false)] [(0, false), (4, false), (5, false)] (fun _ _ => True) (by kernel_rfl) (by kernel_rfl) (by kernel_rfl) (by decide) (by decide) (fun _ => trivial) (fun _ _ _ _ _ => trivial) (by intro d v c a w h; cases d <;> exact h) ?_
          repeat (first | (refine wpT_quiet (v := ?_) rfl (by rfl) ?_ ?_; rotate_left; (· (intro w' hw'; go_simp; try with_reducible rfl)); simp only [Act.put, List.setIfInBounds_toArray, List.set_cons_zero, List.set_cons_succ]) | (refine wpT_skip rfl (by rfl) ?_; simp only [Act.put, List.setIfInBounds_toArray, List.set_cons_zero, List.set_cons_succ]))
          refine wpT_nil ?_ ?_
          · refine wpC_load_f (fun _ => trivial) rfl (by rfl) _ _ rfl w1.heap.size 0 rfl (B8 cur) _ bcd.range Try.underlying27 rfl (info_hash HCL.out) ?_
            simp only [Act.put, List.setIfInBounds_toArray, List.set_cons_zero, List.set_cons_succ]
            refine wpC_load_f (fun _ => trivial) rfl (by rfl) _ _ rfl (w.heap.size + 1) (q * 32) rfl (B8 x) _ rx Try.underlying27 rfl (info_hash HXL.out) ?_
            simp only [Act.put, List.setIfInBounds_toArray, List.set_cons_zero, List.set_cons_succ]
            (refine wpC_loud rfl (by rfl) ?_; intro K hK; go_simp)
            refine (refOver_any cur x HCL.out HXL.out _).mono ?_
            rintro e w5 ⟨rfl, hb5⟩
            have bc5 := bcd.to hb5
            (refine hK.out _ _ (trivial) ?_; clear hK K; try simp only [Act.put, List.setIfInBounds_toArray, List.set_cons_zero, List.set_cons_succ])
            unfold hv
            refine wpC_store_fld rfl (by rfl) _ _ _ rfl w1.heap.size 0 _ _ (B8 (overS cur x)) rfl _ rfl rfl bc5 (by rw [B8_len, B8_len, CE.out, HCL.out]; decide) (info_hash CE.out) (B8_one _) (fun _ _ => trivial) ?_
            intro w6 bc6 bu6
            rw [put_all _ _ (by rw [B8_len, B8_len, CE.out, HCL.out])] at bc6
            have f6 := RBut.trans_ _ _ _ _ (RBut.trans_ _ _ _ _ fd (RBut.of_below hb5)) bu6
            simp only [Act.put, List.setIfInBounds_toArray, List.set_cons_zero, List.set_cons_succ]
            refine wpC_nil ?_
            clear rx
            go_wp2_with fail
            go_roundw
            case rel => exact ⟨q + 1, overS cur x, by rw [← HMM.out], by go_num, by omega, CE, HST, bc6, f6⟩
            case measure => simp [intOf]; omega
          · refine wpC_load_f (fun _ => trivial) rfl (by rfl) _ _ rfl (w.heap.size + 1) (q * 32) rfl (B8 x) _ rx Try.underlying27 rfl (info_hash HXL.out) ?_
            simp only [Act.put, List.setIfInBounds_toArray, List.set_cons_zero, List.set_cons_succ]
            refine wpC_load_f (fun _ => trivial) rfl (by rfl) _ _ rfl w1.heap.size 0 rfl (B8 cur) _ bcd.range Try.underlying27 rfl (info_hash HCL.out) ?_
            simp only [Act.put, List.setIfInBounds_toArray, List.set_cons_zero, List.set_cons_succ]
            (refine wpC_loud rfl (by rfl) ?_; intro K hK; go_simp)
            refine (refOver_any cur x HCL.out HXL.out _).mono ?_
            rintro e w5 ⟨rfl, hb5⟩
            have bc5 := bcd.to hb5
            (refine hK.out _ _ (trivial) ?_; clear hK K; try simp only [Act.put, List.setIfInBounds_toArray, List.set_cons_zero, List.set_cons_succ])
            unfold hv
            refine wpC_store_fld rfl (by rfl) _ _ _ rfl w1.heap.size 0 _ _ (B8 (overS cur x)) rfl _ rfl rfl bc5 (by rw [B8_len, B8_len, CE.out, HCL.out]; decide) (info_hash CE.out) (B8_one _) (fun _ _ => trivial) ?_
            intro w6 bc6 bu6
            rw [put_all _ _ (by rw [B8_len, B8_len, CE.out, HCL.out])] at bc6
            have f6 := RBut.trans_ _ _ _ _ (RBut.trans_ _ _ _ _ fd (RBut.of_below hb5)) bu6
            simp only [Act.put, List.setIfInBounds_toArray, List.set_cons_zero, List.set_cons_succ]
            refine wpC_nil ?_
            clear rx
            go_wp2_with fail
            go_roundw
            case rel => exact ⟨q + 1, overS cur x, by rw [← HMM.out], by go_num, by omega, CE, HST, bc6, f6⟩
            case measure => simp [intOf]; omega
        · have hev2 : (m : Int) % 2 = 1 := by omega
          have HEV : Hid (¬ k0 / 2 ^ q % 2 = 0) := (show ¬ _ by rw [← HMQ.out]; exact hev)
          clear hev
          have CE := Lib.hid (overS_len x cur)
          have HST : Hid (upL p k0 (leafS a) = upL (p.drop (q + 1)) (k0 / 2 ^ (q + 1)) (overS x cur)) := (show _ = _ by rw [hrel.out, upL_step p q k0 x cur HX.out, if_neg HEV.out])
          go_wp2_with fail
          refine wp_region_T [0, 1] 2 3 [(3, false), (4, false), (5, false)] [(2, false), (4, false), (5, false)] (fun _ _ => True) (by kernel_rfl) (by kernel_rfl) (by kernel_rfl) (by decide) (by decide) (fun _ => trivial) (fun _ _ _ _ _ => trivial) (by intro d v c a w h; cases d <;> exact h) ?_
          repeat (first | (refine wpT_quiet (v := ?_) rfl (by rfl) ?_ ?_; rotate_left; (· (intro w' hw'; go_simp; try with_reducible rfl)); simp only [Act.put, List.setIfInBounds_toArray, List.set_cons_zero, List.set_cons_succ]) | (refine wpT_skip rfl (by rfl) ?_; simp only [Act.put, List.setIfInBounds_toArray, List.set_cons_zero, List.set_cons_succ]))
          refine wpT_nil ?_ ?_
          · refine wpC_load_f (fun _ => trivial) rfl (by rfl) _ _ rfl (w.heap.size + 1) (q * 32) rfl (B8 x) _ rx Try.underlying27 rfl (info_hash HXL.out) ?_
            simp only [Act.put, List.setIfInBounds_toArray, List.set_cons_zero, List.set_cons_succ]
            refine wpC_load_f (fun _ => trivial) rfl (by rfl) _ _ rfl w1.heap.size 0 rfl (B8 cur) _ bcd.range Try.underlying27 rfl (info_hash HCL.out) ?_
            simp only [Act.put, List.setIfInBounds_toArray, List.set_cons_zero, List.set_cons_succ]
            (refine wpC_loud rfl (by rfl) ?_; intro K hK; go_simp)
            refine (refOver_any x cur HXL.out HCL.out _).mono ?_
            rintro e w5 ⟨rfl, hb5⟩
            have bc5 := bcd.to hb5
            (refine hK.out _ _ (trivial) ?_; clear hK K; try simp only [Act.put, List.setIfInBounds_toArray, List.set_cons_zero, List.set_cons_succ])
            unfold hv
            refine wpC_store_fld rfl (by rfl) _ _ _ rfl w1.heap.size 0 _ _ (B8 (overS x cur)) rfl _ rfl rfl bc5 (by rw [B8_len, B8_len, CE.out, HCL.out]; decide) (info_hash CE.out) (B8_one _) (fun _ _ => trivial) ?_
            intro w6 bc6 bu6
            rw [put_all _ _ (by rw [B8_len, B8_len, CE.out, HCL.out])] at bc6
            have f6 := RBut.trans_ _ _ _ _ (RBut.trans_ _ _ _ _ fd (RBut.of_below hb5)) bu6
            simp only [Act.put, List.setIfInBounds_toArray, List.set_cons_zero, List.set_cons_succ]
            refine wpC_nil ?_
            clear rx
            go_wp2_with fail
            go_roundw
            case rel => exact ⟨q + 1, overS x cur, by rw [← HMM.out], by go_num, by omega, CE, HST, bc6, f6⟩
            case measure => simp [intOf]; omega
          · refine wpC_load_f (fun _ => trivial) rfl (by rfl) _ _ rfl w1.heap.size 0 rfl (B8 cur) _ bcd.range Try.underlying27 rfl (info_hash HCL.out) ?_
            simp only [Act.put, List.setIfInBounds_toArray, List.set_cons_zero, List.set_cons_succ]
            refine wpC_load_f (fun _ => trivial) rfl (by rfl) _ _ rfl (w.heap.size + 1) (q * 32) rfl (B8 x) _ rx Try.underlying27 rfl (info_hash HXL.out) ?_
            simp only [Act.put, List.setIfInBounds_toArray, List.set_cons_zero, List.set_cons_succ]
            (refine wpC_loud rfl (by rfl) ?_; intro K hK; go_simp)
            refine (refOver_any x cur HXL.out HCL.out _).mono ?_
            rintro e w5 ⟨rfl, hb5⟩
            have bc5 := bcd.to hb5
            (refine hK.out _ _ (trivial) ?_; clear hK K; try simp only [Act.put, List.setIfInBounds_toArray, List.set_cons_zero, List.set_cons_succ])
            unfold hv
            refine wpC_store_fld rfl (by rfl) _ _ _ rfl w1.heap.size 0 _ _ (B8 (overS x cur)) rfl _ rfl rfl bc5 (by rw [B8_len, B8_len, CE.out, HCL.out]; decide) (info_hash CE.out) (B8_one _) (fun _ _ => trivial) ?_
            intro w6 bc6 bu6
            rw [put_all _ _ (by rw [B8_len, B8_len, CE.out, HCL.out])] at bc6
            have f6 := RBut.trans_ _ _ _ _ (RBut.trans_ _ _ _ _ fd (RBut.of_below hb5)) bu6
            simp only [Act.put, List.setIfInBounds_toArray, List.set_cons_zero, List.set_cons_succ]
            refine wpC_nil ?_
            clear rx
            go_wp2_with fail
            go_roundw
            case rel => exact ⟨q + 1, overS x cur, by rw [← HMM.out], by go_num, by omega, CE, HST, bc6, f6⟩
            case measure => simp [intOf]; omega
      · obtain rfl : q = 8 := by omega
        have t1 : ¬ (8 : Int) < 8 := by omega
        have HEND : Hid (upA a p = cur) := (show _ = _ by
          rw [HU.out, HK0.out]
          show upL p k0 (leafS a) = cur
          rw [hrel.out, List.drop_eq_nil_of_le (by rw [HPL.out]; exact Nat.le_refl _)]
          rfl)
        have hb2s := hb2.size
        have bz3 := (bz1.to hb2).but hbu (by intro e; injection e; omega)
        have f2 := f1.trans (hb2.mono f1.size)
        have f3 := f2.trans (below_but hbu (by omega) f2.size)
        go_wp2_with (first
          | (refine wpl_load_fld (by rfl) _ _ rfl w1.heap.size 0 rfl (B8 cur) _ bc.range Try.underlying27 rfl (info_hash HCL.out) ?_)
          | (refine wpl_store_fld (by rfl) _ _ _ rfl (w.heap.size + 2) 0 _ _ (B8 cur) rfl _ rfl rfl bz3 (by rw [B8_len, HCL.out]; decide) (info_hash HCL.out) (B8_one _) ?_
             intro w3 bz4 bu4
             rw [put_all _ _ (by rw [B8_len, HCL.out]; rfl)] at bz4))
        exact bodyPost_ret (v := hv cur) (results_blk Try.results27 rfl bz4 Try.underlying27 rfl (info_hash HCL.out)) rfl ⟨by rw [HEND.out], f3.trans (below_but bu4 (by omega) f3.size)⟩
  · have HU : Hid (upA a p = zero32) := (show _ = _ by unfold upA; rw [if_neg hin])
    have hc : a.id < 0 ∨ ¬ a.id < 0 ∧ ¬ a.id < 256 := by omega
    clear hin
    go_enter Try.func27, Try.ntmps27
    go_upto_region 1 with fail
    refine wp_at HW.out ?_
    clear HW
    rcases hc with h1 | ⟨h1, h2⟩
    all_goals
      go_wp2_with (first
        | (refine wpl_build (by rfl) _ _ rfl _ built_zero_ ?_)
        | (refine wpl_store_fld (by rfl) _ _ _ rfl (w.heap.size + 2) 0 _ _ (B8 zero32) rfl _ rfl rfl bz (by decide) (info_hash rfl) (B8_one _) ?_
           intro w3 bz4 bu4
           rw [put_all _ _ rfl] at bz4))
      exact bodyPost_ret (v := hv zero32) (results_blk Try.results27 rfl bz4 Try.underlying27 rfl (info_hash rfl)) rfl ⟨by rw [HU.out], hbw.trans (below_but bu4 (by omega) hbw.size)⟩
end Go.Proofs.Ytakebmpnbdlcoaa
/- A drawn region walked by a plan: what is taken first; what stands alone; where two or three operations can come up, each. -/
set_option linter.unusedSimpArgs false
set_option linter.unusedVariables false
namespace Go.Proofs.Ytakebmpnbdlcoaa
open Go.RowKit
set_option maxRecDepth 100000
inductive Plan where
  | done : Plan
  | take : Nat → Plan → Plan
  | one : Nat → Plan → Plan
  | two : Nat → Plan → Nat → Plan → Plan
  | three : Nat → Plan → Nat → Plan → Nat → Plan → Plan
def Plan.depth : Plan → Nat
  | .done => 0
  | .take _ p => p.depth + 1
  | .one _ p => p.depth + 1
  | .two _ p _ q => max p.depth q.depth + 1
  | .three _ p _ q _ r => max p.depth (max q.depth r.depth) + 1
section
variable {P : Program} {ops : Array Oper} {Q : Exit → Act → World → Prop} {R : World → World → Prop}
def planOk (ops : Array Oper) : Plan → Array Bool → Bool
  | .done, listed => Region.ready .any ops listed == []
  | .take i p, listed => Region.free .any ops listed i && (Region.ready .any ops listed).contains i && planOk ops p (listed.setIfInBounds i true)
  | .one i p, listed => Region.ready .any ops listed == [i] && planOk ops p (listed.setIfInBounds i true)
  | .two i p j q, listed => Region.ready .any ops listed == [i, j] && planOk ops p (listed.setIfInBounds i true) && planOk ops q (listed.setIfInBounds j true)
  | .three i p j q k r, listed => Region.ready .any ops listed == [i, j, k] && planOk ops p (listed.setIfInBounds i true) && planOk ops q (listed.setIfInBounds j true) && planOk ops r (listed.setIfInBounds k true)
def wpP (P : Program) (ops : Array Oper) (Q : Exit → Act → World → Prop) (R : World → World → Prop) : Plan → Act → World → Prop
  | .done, a, w => Q .normal a w
  | .take i p, a, w => ∃ o v, ops[i]? = some o ∧ YieldsIf P ops (R w) o v a ∧ wpP P ops Q R p (a.put o.dst v) w
  | .one i p, a, w => wpOp P ops Q i (fun a' w' => R w w' ∧ wpP P ops Q R p a' w') a w
  | .two i p j q, a, w => wpOp P ops Q i (fun a' w' => R w w' ∧ wpP P ops Q R p a' w') a w ∧ wpOp P ops Q j (fun a' w' => R w w' ∧ wpP P ops Q R q a' w') a w
  | .three i p j q k r, a, w => wpOp P ops Q i (fun a' w' => R w w' ∧ wpP P ops Q R p a' w') a w ∧ wpOp P ops Q j (fun a' w' => R w w' ∧ wpP P ops Q R q a' w') a w ∧ wpOp P ops Q k (fun a' w' => R w w' ∧ wpP P ops Q R r a' w') a w
theorem wpAnyH_of_P (hrefl : ∀ w, R w w) (htr : ∀ a b c, R a b → R b c → R a c) (hs : Region.noSelect ops = true) (hQ : ∀ (d : Option Tmp) (v : Value) c a w, Q (.panic c) (a.put d v) w → Q (.panic c) a w) :
    ∀ (p : Plan) (fuel : Nat) (listed : Array Bool) (a : Act) (w : World) (S : World → Prop), planOk ops p listed = true → p.depth ≤ fuel → (∀ w', R w w' → S w') → wpP P ops Q R p a w → wpAnyH P .any ops Q S fuel listed a w
  | .done, fuel, listed, a, w, S, hok, _, _, h => wpAnyH_done (by simpa [planOk] using hok) h fuel
  | .take i p, fuel, listed, a, w, S, hok, hf, hS, h => by
    obtain ⟨f, rfl⟩ : ∃ f, fuel = f + 1 := ⟨fuel - 1, by simp [Plan.depth] at hf; omega⟩
    simp only [planOk, Bool.and_eq_true] at hok
    obtain ⟨o, v, ho, hy, hr⟩ := h
    have ih := wpAnyH_of_P hrefl htr hs hQ p f (listed.setIfInBounds i true) (a.put o.dst v) w (fun w' => S w' ∧ R w w') hok.2 (by simp [Plan.depth] at hf; omega) (fun w' h' => ⟨hS w' h', h'⟩) hr
    refine wpAnyH_weaken (fun w' h' => h'.1) _ _ _ _ (wpAnyH_take (oi := o) (v := v) ho hs hok.1.1 hok.1.2 (fun c a w => hQ o.dst v c a w) ?_ ⟨hS w (hrefl w), hrefl w⟩ ih)
    rcases hy with ⟨h1, h2⟩ | h1
    · exact .inl ⟨h1, fun w' h' => h2 w' h'.2⟩
    · exact .inr h1
  | .one i p, fuel, listed, a, w, S, hok, hf, hS, h => by
    obtain ⟨f, rfl⟩ : ∃ f, fuel = f + 1 := ⟨fuel - 1, by simp [Plan.depth] at hf; omega⟩
    simp only [planOk, Bool.and_eq_true, beq_iff_eq] at hok
    refine wpAnyH_all hok.1 (by simp) fun m hm => ?_
    obtain rfl : m = i := by simpa using hm
    exact wpOp_mono (fun a' w' h' => ⟨hS w' h'.1, wpAnyH_of_P hrefl htr hs hQ p f _ a' w' S hok.2 (by simp [Plan.depth] at hf; omega) (fun w'' h'' => hS w'' (htr _ _ _ h'.1 h'')) h'.2⟩) h
  | .two i p j q, fuel, listed, a, w, S, hok, hf, hS, h => by
    obtain ⟨f, rfl⟩ : ∃ f, fuel = f + 1 := ⟨fuel - 1, by simp [Plan.depth] at hf; omega⟩
    simp only [planOk, Bool.and_eq_true, beq_iff_eq] at hok
    obtain ⟨⟨hr, h1⟩, h2⟩ := hok
    simp only [Plan.depth] at hf
    refine wpAnyH_all hr (by simp) fun m hm => ?_
    rcases List.mem_cons.1 hm with rfl | hm
    · exact wpOp_mono (fun a' w' h' => ⟨hS w' h'.1, wpAnyH_of_P hrefl htr hs hQ p f _ a' w' S h1 (by omega) (fun w'' h'' => hS w'' (htr _ _ _ h'.1 h'')) h'.2⟩) h.1
    · obtain rfl : m = j := by simpa using hm
      exact wpOp_mono (fun a' w' h' => ⟨hS w' h'.1, wpAnyH_of_P hrefl htr hs hQ q f _ a' w' S h2 (by omega) (fun w'' h'' => hS w'' (htr _ _ _ h'.1 h'')) h'.2⟩) h.2
  | .three i p j q k r, fuel, listed, a, w, S, hok, hf, hS, h => by
    obtain ⟨f, rfl⟩ : ∃ f, fuel = f + 1 := ⟨fuel - 1, by simp [Plan.depth] at hf; omega⟩
    simp only [planOk, Bool.and_eq_true, beq_iff_eq] at hok
    obtain ⟨⟨⟨hr, h1⟩, h2⟩, h3⟩ := hok
    simp only [Plan.depth] at hf
    refine wpAnyH_all hr (by simp) fun m hm => ?_
    rcases List.mem_cons.1 hm with rfl | hm
    · exact wpOp_mono (fun a' w' h' => ⟨hS w' h'.1, wpAnyH_of_P hrefl htr hs hQ p f _ a' w' S h1 (by omega) (fun w'' h'' => hS w'' (htr _ _ _ h'.1 h'')) h'.2⟩) h.1
    · rcases List.mem_cons.1 hm with rfl | hm
      · exact wpOp_mono (fun a' w' h' => ⟨hS w' h'.1, wpAnyH_of_P hrefl htr hs hQ q f _ a' w' S h2 (by omega) (fun w'' h'' => hS w'' (htr _ _ _ h'.1 h'')) h'.2⟩) h.2.1
      · obtain rfl : m = k := by simpa using hm
        exact wpOp_mono (fun a' w' h' => ⟨hS w' h'.1, wpAnyH_of_P hrefl htr hs hQ r f _ a' w' S h3 (by omega) (fun w'' h'' => hS w'' (htr _ _ _ h'.1 h'')) h'.2⟩) h.2.2
theorem wp_region_P {id : Nat} {a : Act} {w : World} (p : Plan) (R : World → World → Prop) (hm : P.follows .mixedOrders = true) (hs : Region.noSelect ops = true) (hok : planOk ops p (Array.replicate ops.size false) = true) (hl : p.depth ≤ ops.size)
    (hrefl : ∀ w, R w w) (htr : ∀ a b c, R a b → R b c → R a c) (hQ : ∀ (d : Option Tmp) (v : Value) c a w, Q (.panic c) (a.put d v) w → Q (.panic c) a w)
    (h : wpP P ops Q R p a w.drew) : (Code.region id ops true).wp P Q a w :=
  wp_region_held (S := fun _ => True) hm (wpAnyH_of_P hrefl htr hs hQ p _ _ _ _ _ hok hl (fun _ _ => trivial) h)
/-- operation i is carried out, then the plan p -/
def Loud (P : Program) (ops : Array Oper) (Q : Exit → Act → World → Prop) (R : World → World → Prop) (i : Nat) (p : Plan) (a : Act) (w : World) : Prop := wpOp P ops Q i (fun a' w' => R w w' ∧ wpP P ops Q R p a' w') a w
theorem wpP_done {a : Act} {w : World} (h : Q .normal a w) : wpP P ops Q R .done a w := h
theorem wpP_one {i : Nat} {p : Plan} {a : Act} {w : World} (h : Loud P ops Q R i p a w) : wpP P ops Q R (.one i p) a w := h
theorem wpP_two {i j : Nat} {p q : Plan} {a : Act} {w : World} (h : Loud P ops Q R i p a w) (h2 : Loud P ops Q R j q a w) : wpP P ops Q R (.two i p j q) a w := ⟨h, h2⟩
theorem wpP_three {i j k : Nat} {p q r : Plan} {a : Act} {w : World} (h : Loud P ops Q R i p a w) (h2 : Loud P ops Q R j q a w) (h3 : Loud P ops Q R k r a w) : wpP P ops Q R (.three i p j q k r) a w := ⟨h, h2, h3⟩
theorem below_st {w2 w w' : World} {p : Nat} (h : Below w2.heap.size w2 w) (u : RBut (some p) w w') (hp : w2.heap.size ≤ p) : Below w2.heap.size w2 w' := h.trans (below_but u hp h.size)
theorem wpP_quiet {i : Nat} {p : Plan} {o : Oper} {v : Value} {a : Act} {w : World} (ho : nth ops.toList i = some o) (hw : Region.wanted o (yielded ops a.tmps) = true)
    (hy : ∀ w', R w w' → (execOp a.eval o).run P w' = .ok (.value v) w') (h : wpP P ops Q R p (a.put o.dst v) w) : wpP P ops Q R (.take i p) a w := ⟨o, v, nth_ops ho, .inl ⟨hw, hy⟩, h⟩
theorem wpP_skip {i : Nat} {p : Plan} {o : Oper} {a : Act} {w : World} (ho : nth ops.toList i = some o) (hw : Region.wanted o (yielded ops a.tmps) = false)
    (h : wpP P ops Q R p (a.put o.dst undef) w) : wpP P ops Q R (.take i p) a w := ⟨o, undef, nth_ops ho, .inr ⟨hw, rfl⟩, h⟩
/-- an operation that is carried out -/
theorem wpP_loud {i : Nat} {p : Plan} {o : Oper} {a : Act} {w : World} (ho : nth ops.toList i = some o) (hw : Region.wanted o (yielded ops a.tmps) = true)
    (h : ∀ K : Act → World → Prop, Shut (∀ a' w', R w w' → wpP P ops Q R p a' w' → K a' w') → o.wp P a w K Q) : Loud P ops Q R i p a w := by
  unfold Loud wpOp
  simp only [nth_ops ho, hw, if_true]
  exact .inl (h _ fun a' w' h1 h2 => ⟨h1, h2⟩)
/-- some operations in a row, then a plan -/
def Plan.seq : List (Nat × Bool) → Plan → Plan
  | [], p => p
  | (i, true) :: l, p => .take i (Plan.seq l p)
  | (i, false) :: l, p => .one i (Plan.seq l p)
theorem wpP_load {i : Nat} {p : Plan} {o : Oper} {a : Act} {w : World} (ho : nth ops.toList i = some o) (hw : Region.wanted o (yielded ops a.tmps) = true) (ty : TypeId) (x : Operand) (hop : o.op = .load ty x)
    (b off : Nat) (hx : a.eval x = .pointer (some ⟨b, off, none⟩)) (cs : List Value) (d : TypeDesc) (hS : ∀ w', R w w' → w'.rangeAt b off cs) (hu : P.underlying ty = some d) (hd : d.isRow = true) (hi : (P.info? ty).map (·.size) = some cs.length)
    (h : wpP P ops Q R p (a.put o.dst (.agg cs.toArray)) w) : wpP P ops Q R (.take i p) a w :=
  ⟨o, _, nth_ops ho, yieldsIf_load_mid hw ty x hop b off hx cs d hS hu hd hi, h⟩
theorem wpP_val {i : Nat} {p : Plan} {o : Oper} {v : Value} {a : Act} {w : World} (hrefl : ∀ w, R w w) (ho : nth ops.toList i = some o) (hw : Region.wanted o (yielded ops a.tmps) = true)
    (hy : (execOp a.eval o).run P w = .ok (.value v) w) (h : wpP P ops Q R p (a.put o.dst v) w) : wpP P ops Q R (.one i p) a w := by
  show wpOp P ops Q i (fun a' w' => R w w' ∧ wpP P ops Q R p a' w') a w
  unfold wpOp
  simp only [nth_ops ho, hw, if_true]
  refine .inl ?_
  unfold Oper.wp
  rw [hy]
  exact ⟨hrefl w, h⟩
theorem wpP_skip' {i : Nat} {p : Plan} {o : Oper} {a : Act} {w : World} (hrefl : ∀ w, R w w) (ho : nth ops.toList i = some o) (hw : Region.wanted o (yielded ops a.tmps) = false)
    (h : wpP P ops Q R p (a.put o.dst undef) w) : wpP P ops Q R (.one i p) a w := by
  show wpOp P ops Q i (fun a' w' => R w w' ∧ wpP P ops Q R p a' w') a w
  unfold wpOp
  simp only [nth_ops ho, hw, Bool.false_eq_true, if_false]
  exact ⟨hrefl w, h⟩
theorem wpP_load_f {i : Nat} {p : Plan} {o : Oper} {a : Act} {w : World} (hrefl : ∀ w, R w w) (ho : nth ops.toList i = some o) (hw : Region.wanted o (yielded ops a.tmps) = true) (ty : TypeId) (x : Operand) (hop : o.op = .load ty x)
    (b off : Nat) (hx : a.eval x = .pointer (some ⟨b, off, none⟩)) (cs : List Value) (d : TypeDesc) (hc : w.rangeAt b off cs) (hu : P.underlying ty = some d) (hd : d.isRow = true) (hi : (P.info? ty).map (·.size) = some cs.length)
    (h : wpP P ops Q R p (a.put o.dst (.agg cs.toArray)) w) : wpP P ops Q R (.one i p) a w := by
  show wpOp P ops Q i (fun a' w' => R w w' ∧ wpP P ops Q R p a' w') a w
  unfold wpOp
  simp only [nth_ops ho, hw, if_true]
  refine .inl ?_
  refine wp_load_mid ty x hop b off hx cs d hc hu hd hi ?_
  exact ⟨hrefl w, h⟩
end
end Go.Proofs.Ytakebmpnbdlcoaa
/- Regions by a plan: what is built; one step and no more; sums that are one. -/
set_option linter.unusedSimpArgs false
set_option linter.unusedVariables false
namespace Go.Proofs.Ytakebmpnbdlcoaa
open Go.RowKit
set_option maxRecDepth 100000
section
variable {P : Program} {ops : Array Oper} {Q : Exit → Act → World → Prop} {R : World → World → Prop}
theorem wpP_build {i : Nat} {p : Plan} {o : Oper} {a : Act} {w : World} (ho : nth ops.toList i = some o) (hw : Region.wanted o (yielded ops a.tmps) = true) (t : TypeId) (parts : Array (Nat × Operand)) (hop : o.op = .build t parts)
    (cells : Array Value) (hf : P.built t (parts.toList.map fun x => (x.1, a.eval x.2)) = some cells) (h : wpP P ops Q R p (a.put o.dst (.agg cells)) w) : wpP P ops Q R (.take i p) a w := by
  refine wpP_quiet (v := .agg cells) ho hw (fun w' _ => ?_) h
  unfold execOp
  simp only [hop, run_build w' t _ cells (by rw [Array.toList_map]; exact hf), Sem.run_bind, Result.andThen_ok, Sem.run_pure]
end
theorem eq_self (a : List UInt8) (ha : a.length = 32) (w : World) : (Op.equalIn 10000 27 (.agg (B8 a).toArray) (.agg (B8 a).toArray)).run Try.prog w = .ok true w := by
  rw [eq_hash a a ha ha w]
  simp
theorem eq_other (a b : List UInt8) (ha : a.length = 32) (hb : b.length = 32) (h : a ≠ b) (w : World) : (Op.equalIn 10000 27 (.agg (B8 a).toArray) (.agg (B8 b).toArray)).run Try.prog w = .ok false w := by
  rw [eq_hash a b ha hb w, decide_eq_false h]
end Go.Proofs.Ytakebmpnbdlcoaa
/- Calls on slices that read as states: Get, Root, Prove, the document's. -/
set_option linter.unusedSimpArgs false
set_option linter.unusedVariables false
namespace Go.Proofs.Ytakebmpnbdlcoaa
open Go.RowKit
set_option maxRecDepth 100000
theorem stGet_any (v : Value) (s : List Acc) (i : Int) (w : World) (h : StV w v s) (hs : St s) : Calls Try.prog 28 #[v, .int .i64 i] w fun e w' => e = .returned (accV (getS s i)) ∧ Below w.heap.size w w' := by
  obtain ⟨A, n, c, rfl, sl, h2, h3, h4⟩ := h
  exact refGet_any A n c s i w sl h2 (by have := hs.len; omega)
theorem stRoot_any (v : Value) (s : List Acc) (w : World) (h : StV w v s) (hs : St s) (hwf : ∀ x ∈ s, x.wf) : Calls Try.prog 21 #[v] w fun e w' => e = .returned (hv (rootJ 8 (leavesL s))) ∧ Below w.heap.size w w' := by
  obtain ⟨A, n, c, rfl, sl, h2, h3, h4⟩ := h
  exact treeRoot_any A n c s w sl h2 (by have := hs.len; omega) hwf
theorem stRefRoot_any (v : Value) (s : List Acc) (w : World) (h : StV w v s) (hs : St s) (hwf : ∀ x ∈ s, x.wf) : Calls Try.prog 22 #[v] w fun e w' => e = .returned (hv (rootJ 8 (leavesL s))) ∧ Below w.heap.size w w' := by
  refine refRoot_of v (leavesL s) (leavesL_len s) (leavesL_all s) w fun W hW => ?_
  obtain ⟨A, n, c, rfl, sl, h2, h3, h4⟩ := h.to hW
  exact leaves_any A n c s W sl h2 (by have := hs.len; omega) hwf
theorem stProve_any (v : Value) (s : List Acc) (i : Int) (w : World) (h : StV w v s) (hs : St s) (hwf : ∀ x ∈ s, x.wf) : Calls Try.prog 24 #[v, .int .i64 i] w fun e w' => e = .returned (pv (proveS s i)) ∧ Below w.heap.size w w' := by
  obtain ⟨A, n, c, rfl, sl, h2, h3, h4⟩ := h
  exact prove_any A n c s i w sl h2 (by have := hs.len; omega) hwf
theorem stRefProve_any (v : Value) (s : List Acc) (i : Int) (w : World) (h : StV w v s) (hs : St s) (hwf : ∀ x ∈ s, x.wf) (hi : -9223372036854775808 ≤ i) (hi2 : i < 9223372036854775808) : Calls Try.prog 25 #[v, .int .i64 i] w fun e w' => e = .returned (pv (proveS s i)) ∧ Below w.heap.size w w' := by
  obtain ⟨A, n, c, rfl, sl, h2, h3, h4⟩ := h
  exact refProve_any A n c s i w sl h2 (by have := hs.len; omega) hwf hi hi2
theorem get_small {s : List Acc} (h : ∀ x ∈ s, x.small) (i : Int) : (getS s i).small := by
  induction s with
  | nil => exact ⟨(by decide : (0 : Int) ≤ 0 ∧ (0 : Int) ≤ 1000), (by decide : (0 : Int) ≤ 0 ∧ (0 : Int) ≤ 1000), (by decide : (-1000 : Int) ≤ 0 ∧ (0 : Int) ≤ 1000)⟩
  | cons x s ih =>
    unfold getS
    split
    · exact h x (by simp)
    · exact ih fun y hy => h y (by simp [hy])
theorem proveS_len (s : List Acc) (i : Int) : (proveS s i).length = 8 := by
  unfold proveS
  split
  · exact proveJ_len _ _ _
  · rfl
theorem proveS_all (s : List Acc) (i : Int) : ∀ x ∈ proveS s i, x.length = 32 := by
  unfold proveS
  split
  · exact proveJ_all (leavesL_all s) _ _
  · exact path0_all
theorem root_len (s : List Acc) : (rootJ 8 (leavesL s)).length = 32 := rootS_len s
end Go.Proofs.Ytakebmpnbdlcoaa
/- Walks: the law's known example (capstanlaw7.known). -/
set_option linter.unusedSimpArgs false
set_option linter.unusedVariables false

namespace Go.Proofs.Ytakebmpnbdlcoaa
open Go.RowKit
set_option maxRecDepth 100000
def acc0 : Acc := ⟨3, 5, 0, 0⟩
theorem built_path : Try.prog.built 41 [] = some (H8 path0).toArray := by kernel_rfl
set_option maxRecDepth 100000 in
set_option maxHeartbeats 4000000 in
theorem treeKnown_any (w : World) : Calls Try.prog 15 #[] w (RB true w) := by
  obtain ⟨V, HV, hv0, bv⟩ : ∃ V, Hid (V = w.alloc (.cells #[.int .i64 3, .int .i64 5, .int .i64 0, .int .i64 0] 23)) ∧ Below w.heap.size w V ∧ Blk V w.heap.size 23 (accC acc0) := ⟨_, rfl, (Below.refl _ _).alloc (Nat.le_refl _) _, Blk.new w #[.int .i64 3, .int .i64 5, .int .i64 0, .int .i64 0] 23⟩
  go_enter Try.func15, Try.ntmps15
  go_wp2_with fail
  refine wp_at HV.out ?_
  have HW0 : Hid acc0.wf := (show acc0.wf from ⟨by decide, by decide, by decide, by decide⟩)
  have HWF : Hid (∀ x ∈ [acc0], x.wf) := (show ∀ x ∈ [acc0], x.wf from by intro x hx; simp at hx; subst hx; exact HW0.out)
  obtain ⟨r1, hr1⟩ : ∃ r, upA acc0 path0 = r := ⟨_, rfl⟩
  have HU := Lib.hid hr1
  have HRL : Hid (r1.length = 32) := (show _ = _ by rw [← hr1]; exact upA_len _ _)
  have HR1 : Hid (rootJ 8 (leavesL [acc0]) = r1) := (show _ = _ by rw [← hr1]; exact root_one acc0 (by decide))
  have HNE : Hid (r1 ≠ zero32) := (show _ ≠ _ by rw [← hr1]; exact known_ne)
  clear hr1
  refine wp_region_P (.take 1 (.one 0 (.take 2 (.take 3 (.take 4 (.take 7 (.one 5 (.one 6 (.take 8 (.take 9 (.take 10 (.take 11 (.take 12 (.take 14 (.two 13 (.one 15 (.one 16 (.take 17 (.take 18 (.take 19 .done))))) 15 (.one 13 (.one 16 (.take 17 (.take 18 (.take 19 .done)))))))))))))))))))) (Below V.drew.heap.size) (by kernel_rfl) (by kernel_rfl) (by kernel_rfl) (by decide +kernel) (Below.refl _) (fun _ _ _ => Below.trans) (by intro d v c a w h; first | (cases d <;> exact h) | exact absurd h.1 (by simp)) ?_
  have ba : Blk (V.drew) w.heap.size 23 (accC acc0) := bv
  have f0 : Below w.heap.size w V.drew := hv0.drew
  generalize V.drew = V0 at *
  have fb : Below V0.heap.size V0 V0 := Below.refl _ _
  have hN := ba.lt
  refine wpP_build rfl (by rfl) _ _ rfl _ built_zero_ ?_
  simp only [Act.put, List.setIfInBounds_toArray, List.set_cons_zero, List.set_cons_succ]
  refine wpP_one ?_
  refine wpP_loud rfl (by rfl) ?_
  intro K hK
  go_simp
  refine (treeRoot_any none 0 0 [] _ Sl.nil_ rfl (by omega) (by simp)).mono ?_
  rintro e Vn ⟨rfl, hb⟩
  rw [root_nil]
  unfold hv
  refine hK.out _ _ (hb.mono fb.size) ?_
  clear hK K
  try simp only [Act.put, List.setIfInBounds_toArray, List.set_cons_zero, List.set_cons_succ]
  replace fb := fb.trans (hb.mono fb.size)
  clear hb
  have eqk := eq_self zero32 rfl
  first | (refine wpP_quiet (v := ?_) rfl (by rfl) ?_ ?_; rotate_left; (· (intro w' hw'; go_simp; try with_reducible rfl)); simp only [Act.put, List.setIfInBounds_toArray, List.set_cons_zero, List.set_cons_succ]) | (refine wpP_skip rfl (by rfl) ?_; simp only [Act.put, List.setIfInBounds_toArray, List.set_cons_zero, List.set_cons_succ])
  clear eqk
  first | (refine wpP_quiet (v := ?_) rfl (by rfl) ?_ ?_; rotate_left; (· (intro w' hw'; go_simp; try with_reducible rfl)); simp only [Act.put, List.setIfInBounds_toArray, List.set_cons_zero, List.set_cons_succ]) | (refine wpP_skip rfl (by rfl) ?_; simp only [Act.put, List.setIfInBounds_toArray, List.set_cons_zero, List.set_cons_succ])
  refine wpP_load rfl (by rfl) _ _ rfl w.heap.size 0 rfl (accC acc0) _ (fun w' h => (ba.below (fb.trans h) hN).range) Try.underlying23 rfl info_acc ?_
  simp only [Act.put, List.setIfInBounds_toArray, List.set_cons_zero, List.set_cons_succ]
  refine wpP_build rfl (by rfl) _ _ rfl _ built_zero_ ?_
  simp only [Act.put, List.setIfInBounds_toArray, List.set_cons_zero, List.set_cons_succ]
  refine wpP_one ?_
  refine wpP_loud rfl (by rfl) ?_
  intro K hK
  unfold accC acc0
  go_simp
  have ha : Below Vn.heap.size Vn (Vn.alloc (.cells #[.int .i64 3, .int .i64 5, .int .i64 0, .int .i64 0] 23)) := (Below.refl _ _).alloc (Nat.le_refl _) _
  have hst : Sl (Vn.alloc (.cells #[.int .i64 3, .int .i64 5, .int .i64 0, .int .i64 0] 23)) 4 (some ⟨Vn.heap.size, 0, none⟩) 1 (A4 [acc0]) := Sl.new Vn #[.int .i64 3, .int .i64 5, .int .i64 0, .int .i64 0] 23 (0, 0) 1 rfl
  have hr := ha.mono fb.size
  refine hK.out _ _ hr ?_
  clear hK K
  try simp only [Act.put, List.setIfInBounds_toArray, List.set_cons_zero, List.set_cons_succ]
  replace fb := fb.trans hr
  obtain ⟨pS, hpS⟩ : ∃ p, p = Vn.heap.size := ⟨_, rfl⟩
  rw [← hpS] at hst ⊢
  clear hpS ha hr
  generalize Vn.alloc (.cells #[.int .i64 3, .int .i64 5, .int .i64 0, .int .i64 0] 23) = Vm at *
  refine wpP_one ?_
  refine wpP_loud rfl (by rfl) ?_
  intro K hK
  go_simp
  refine (treeRoot_any _ 1 1 [acc0] _ hst rfl (by omega) HWF.out).mono ?_
  rintro e Vn ⟨rfl, hb⟩
  rw [HR1.out]
  clear hst
  unfold hv
  refine hK.out _ _ (hb.mono fb.size) ?_
  clear hK K
  try simp only [Act.put, List.setIfInBounds_toArray, List.set_cons_zero, List.set_cons_succ]
  replace fb := fb.trans (hb.mono fb.size)
  clear hb
  have eqk := eq_other r1 zero32 HRL.out rfl HNE.out
  first | (refine wpP_quiet (v := ?_) rfl (by rfl) ?_ ?_; rotate_left; (· (intro w' hw'; go_simp; try with_reducible rfl)); simp only [Act.put, List.setIfInBounds_toArray, List.set_cons_zero, List.set_cons_succ]) | (refine wpP_skip rfl (by rfl) ?_; simp only [Act.put, List.setIfInBounds_toArray, List.set_cons_zero, List.set_cons_succ])
  clear eqk
  first | (refine wpP_quiet (v := ?_) rfl (by rfl) ?_ ?_; rotate_left; (· (intro w' hw'; go_simp; try with_reducible rfl)); simp only [Act.put, List.setIfInBounds_toArray, List.set_cons_zero, List.set_cons_succ]) | (refine wpP_skip rfl (by rfl) ?_; simp only [Act.put, List.setIfInBounds_toArray, List.set_cons_zero, List.set_cons_succ])
  first | (refine wpP_quiet (v := ?_) rfl (by rfl) ?_ ?_; rotate_left; (· (intro w' hw'; go_simp; try with_reducible rfl)); simp only [Act.put, List.setIfInBounds_toArray, List.set_cons_zero, List.set_cons_succ]) | (refine wpP_skip rfl (by rfl) ?_; simp only [Act.put, List.setIfInBounds_toArray, List.set_cons_zero, List.set_cons_succ])
  refine wpP_load rfl (by rfl) _ _ rfl w.heap.size 0 rfl (accC acc0) _ (fun w' h => (ba.below (fb.trans h) hN).range) Try.underlying23 rfl info_acc ?_
  simp only [Act.put, List.setIfInBounds_toArray, List.set_cons_zero, List.set_cons_succ]
  refine wpP_build rfl (by rfl) _ _ rfl _ built_path ?_
  simp only [Act.put, List.setIfInBounds_toArray, List.set_cons_zero, List.set_cons_succ]
  refine wpP_load rfl (by rfl) _ _ rfl w.heap.size 0 rfl (accC acc0) _ (fun w' h => (ba.below (fb.trans h) hN).range) Try.underlying23 rfl info_acc ?_
  simp only [Act.put, List.setIfInBounds_toArray, List.set_cons_zero, List.set_cons_succ]
  refine wpP_two ?_ ?_
  · refine wpP_loud rfl (by rfl) ?_
    intro K hK
    go_simp
    refine (up_any acc0 HW0.out path0 rfl path0_all _).mono ?_
    rintro e Vn ⟨rfl, hb⟩
    rw [HU.out]
    try (replace hst := hst.to hb)
    unfold hv
    refine hK.out _ _ (hb.mono fb.size) ?_
    clear hK K
    try simp only [Act.put, List.setIfInBounds_toArray, List.set_cons_zero, List.set_cons_succ]
    replace fb := fb.trans (hb.mono fb.size)
    clear hb
    refine wpP_one ?_
    refine wpP_loud rfl (by rfl) ?_
    intro K hK
    unfold accC acc0
    go_simp
    have ha : Below Vn.heap.size Vn (Vn.alloc (.cells #[.int .i64 3, .int .i64 5, .int .i64 0, .int .i64 0] 23)) := (Below.refl _ _).alloc (Nat.le_refl _) _
    have hst : Sl (Vn.alloc (.cells #[.int .i64 3, .int .i64 5, .int .i64 0, .int .i64 0] 23)) 4 (some ⟨Vn.heap.size, 0, none⟩) 1 (A4 [acc0]) := Sl.new Vn #[.int .i64 3, .int .i64 5, .int .i64 0, .int .i64 0] 23 (0, 0) 1 rfl
    have hr := ha.mono fb.size
    refine hK.out _ _ hr ?_
    clear hK K
    try simp only [Act.put, List.setIfInBounds_toArray, List.set_cons_zero, List.set_cons_succ]
    replace fb := fb.trans hr
    obtain ⟨pS, hpS⟩ : ∃ p, p = Vn.heap.size := ⟨_, rfl⟩
    rw [← hpS] at hst ⊢
    clear hpS ha hr
    generalize Vn.alloc (.cells #[.int .i64 3, .int .i64 5, .int .i64 0, .int .i64 0] 23) = Vm at *
    refine wpP_one ?_
    refine wpP_loud rfl (by rfl) ?_
    intro K hK
    go_simp
    refine (treeRoot_any _ 1 1 [acc0] _ hst rfl (by omega) HWF.out).mono ?_
    rintro e Vn ⟨rfl, hb⟩
    rw [HR1.out]
    clear hst
    unfold hv
    refine hK.out _ _ (hb.mono fb.size) ?_
    clear hK K
    try simp only [Act.put, List.setIfInBounds_toArray, List.set_cons_zero, List.set_cons_succ]
    replace fb := fb.trans (hb.mono fb.size)
    clear hb
    have eqk := eq_self r1 HRL.out
    first | (refine wpP_quiet (v := ?_) rfl (by rfl) ?_ ?_; rotate_left; (· (intro w' hw'; go_simp; try with_reducible rfl)); simp only [Act.put, List.setIfInBounds_toArray, List.set_cons_zero, List.set_cons_succ]) | (refine wpP_skip rfl (by rfl) ?_; simp only [Act.put, List.setIfInBounds_toArray, List.set_cons_zero, List.set_cons_succ])
    clear eqk
    first | (refine wpP_quiet (v := ?_) rfl (by rfl) ?_ ?_; rotate_left; (· (intro w' hw'; go_simp; try with_reducible rfl)); simp only [Act.put, List.setIfInBounds_toArray, List.set_cons_zero, List.set_cons_succ]) | (refine wpP_skip rfl (by rfl) ?_; simp only [Act.put, List.setIfInBounds_toArray, List.set_cons_zero, List.set_cons_succ])
    first | (refine wpP_quiet (v := ?_) rfl (by rfl) ?_ ?_; rotate_left; (· (intro w' hw'; go_simp; try with_reducible rfl)); simp only [Act.put, List.setIfInBounds_toArray, List.set_cons_zero, List.set_cons_succ]) | (refine wpP_skip rfl (by rfl) ?_; simp only [Act.put, List.setIfInBounds_toArray, List.set_cons_zero, List.set_cons_succ])
    refine wpP_done ?_
    go_wp2_with fail
    go_ret
    exact ⟨rfl, f0.trans (fb.mono f0.size)⟩
  · refine wpP_loud rfl (by rfl) ?_
    intro K hK
    unfold accC acc0
    go_simp
    have ha : Below Vn.heap.size Vn (Vn.alloc (.cells #[.int .i64 3, .int .i64 5, .int .i64 0, .int .i64 0] 23)) := (Below.refl _ _).alloc (Nat.le_refl _) _
    have hst : Sl (Vn.alloc (.cells #[.int .i64 3, .int .i64 5, .int .i64 0, .int .i64 0] 23)) 4 (some ⟨Vn.heap.size, 0, none⟩) 1 (A4 [acc0]) := Sl.new Vn #[.int .i64 3, .int .i64 5, .int .i64 0, .int .i64 0] 23 (0, 0) 1 rfl
    have hr := ha.mono fb.size
    refine hK.out _ _ hr ?_
    clear hK K
    try simp only [Act.put, List.setIfInBounds_toArray, List.set_cons_zero, List.set_cons_succ]
    replace fb := fb.trans hr
    obtain ⟨pS, hpS⟩ : ∃ p, p = Vn.heap.size := ⟨_, rfl⟩
    rw [← hpS] at hst ⊢
    clear hpS ha hr
    generalize Vn.alloc (.cells #[.int .i64 3, .int .i64 5, .int .i64 0, .int .i64 0] 23) = Vm at *
    refine wpP_one ?_
    refine wpP_loud rfl (by rfl) ?_
    intro K hK
    go_simp
    refine (up_any acc0 HW0.out path0 rfl path0_all _).mono ?_
    rintro e Vn ⟨rfl, hb⟩
    rw [HU.out]
    try (replace hst := hst.to hb)
    unfold hv
    refine hK.out _ _ (hb.mono fb.size) ?_
    clear hK K
    try simp only [Act.put, List.setIfInBounds_toArray, List.set_cons_zero, List.set_cons_succ]
    replace fb := fb.trans (hb.mono fb.size)
    clear hb
    refine wpP_one ?_
    refine wpP_loud rfl (by rfl) ?_
    intro K hK
    go_simp
    refine (treeRoot_any _ 1 1 [acc0] _ hst rfl (by omega) HWF.out).mono ?_
    rintro e Vn ⟨rfl, hb⟩
    rw [HR1.out]
    clear hst
    unfold hv
    refine hK.out _ _ (hb.mono fb.size) ?_
    clear hK K
    try simp only [Act.put, List.setIfInBounds_toArray, List.set_cons_zero, List.set_cons_succ]
    replace fb := fb.trans (hb.mono fb.size)
    clear hb
    have eqk := eq_self r1 HRL.out
    first | (refine wpP_quiet (v := ?_) rfl (by rfl) ?_ ?_; rotate_left; (· (intro w' hw'; go_simp; try with_reducible rfl)); simp only [Act.put, List.setIfInBounds_toArray, List.set_cons_zero, List.set_cons_succ]) | (refine wpP_skip rfl (by rfl) ?_; simp only [Act.put, List.setIfInBounds_toArray, List.set_cons_zero, List.set_cons_succ])
    clear eqk
    first | (refine wpP_quiet (v := ?_) rfl (by rfl) ?_ ?_; rotate_left; (· (intro w' hw'; go_simp; try with_reducible rfl)); simp only [Act.put, List.setIfInBounds_toArray, List.set_cons_zero, List.set_cons_succ]) | (refine wpP_skip rfl (by rfl) ?_; simp only [Act.put, List.setIfInBounds_toArray, List.set_cons_zero, List.set_cons_succ])
    first | (refine wpP_quiet (v := ?_) rfl (by rfl) ?_ ?_; rotate_left; (· (intro w' hw'; go_simp; try with_reducible rfl)); simp only [Act.put, List.setIfInBounds_toArray, List.set_cons_zero, List.set_cons_succ]) | (refine wpP_skip rfl (by rfl) ?_; simp only [Act.put, List.setIfInBounds_toArray, List.set_cons_zero, List.set_cons_succ])
    refine wpP_done ?_
    go_wp2_with fail
    go_ret
    exact ⟨rfl, f0.trans (fb.mono f0.size)⟩
end Go.Proofs.Ytakebmpnbdlcoaa
/- Walks: the document's Same (capstanref8.Same); capstanlaw7.over. -/
set_option linter.unusedSimpArgs false
set_option linter.unusedVariables false
namespace Go.Proofs.Ytakebmpnbdlcoaa
open Go.RowKit
set_option maxRecDepth 100000
set_option maxRecDepth 100000 in
set_option maxHeartbeats 4000000 in
theorem eq_acc (a b : Acc) (w : World) : (Op.equalIn 10000 23 (.agg (accC a).toArray) (.agg (accC b).toArray)).run Try.prog w = .ok (decide (a = b)) w := by
  obtain ⟨a1, a2, a3, a4⟩ := a
  obtain ⟨b1, b2, b3, b4⟩ := b
  have pl : Try.prog.plainKey 3 = true := by unfold Program.plainKey; rw [Try.underlying3]
  rw [run_equalIn_struct w 9999 _ _ _ (by kernel_rfl) Try.stoodInHeld23]
  simp only [Program.fieldsOf, Try.underlying23, accC]
  have I : ∀ x y : Int, (Op.equalIn 9999 3 (.int .i64 x) (.int .i64 y)).run Try.prog w = .ok (x == y) w := fun x y => run_equalIn_int w 9998 _ .i64 .i64 x y Try.underlying3
  rw [eqFields_step (by decide) (run_part_plain w pl (v := .int .i64 a1) rfl) (run_part_plain w pl (v := .int .i64 b1) rfl) (I a1 b1)]
  rw [eqFields_step (by decide) (run_part_plain w pl (v := .int .i64 a2) rfl) (run_part_plain w pl (v := .int .i64 b2) rfl) (I a2 b2)]
  rw [eqFields_step (by decide) (run_part_plain w pl (v := .int .i64 a3) rfl) (run_part_plain w pl (v := .int .i64 b3) rfl) (I a3 b3)]
  rw [eqFields_step (by decide) (run_part_plain w pl (v := .int .i64 a4) rfl) (run_part_plain w pl (v := .int .i64 b4) rfl) (I a4 b4)]
  rw [eqFields_nil]
  simp only [Acc.mk.injEq]
  by_cases h1 : a1 = b1
  · by_cases h2 : a2 = b2
    · by_cases h3 : a3 = b3
      · by_cases h4 : a4 = b4
        · simp [h1, h2, h3, h4]
        · simp [h1, h2, h3, h4]
      · simp [h1, h2, h3]
    · simp [h1, h2]
  · simp [h1]
set_option maxRecDepth 100000 in
set_option maxHeartbeats 4000000 in
theorem same_any (A B : Option Addr) (n c m d : Nat) (s t : List Acc) (w : World) (sl : Sl w 4 A n (A4 s)) (st : Sl w 4 B m (A4 t)) (hs : s.length = n) (ht : t.length = m) (hn : n ≤ 1099511627776) :
    Calls Try.prog 29 #[.slice A n c, .slice B m d] w (RB (decide (s = t)) w) := by
  by_cases hnm : n = m
  · subst hnm
    go_enter Try.func29, Try.ntmps29
    go_wp2_with fail
    go_loopw [5] (fun k wr => ∃ q : Nat, k = .int .i64 (q : Int) ∧ q ≤ n ∧ Hid (s.take q = t.take q) ∧ Below w.heap.size w wr) (fun k _ => n - (intOf k).toNat)
    case atStart => exact ⟨0, rfl, Nat.zero_le _, rfl, Below.refl _ _⟩
    case round =>
      obtain ⟨q, rfl, hq, heq, hb⟩ := hrel
      by_cases hlt : q < n
      · have t1 : (q : Int) < (n : Int) := by omega
        obtain ⟨x, hx⟩ : ∃ x, s[q]? = some x := ⟨_, List.getElem?_eq_getElem (by omega)⟩
        obtain ⟨y, hy⟩ : ∃ y, t[q]? = some y := ⟨_, List.getElem?_eq_getElem (by omega)⟩
        obtain ⟨b1, o1, rfl, hb1⟩ := sl.some_ (by omega)
        obtain ⟨b2, o2, rfl, hb2⟩ := st.some_ (by omega)
        obtain ⟨k0, k1, k2, k3⟩ := (sl.to hb).drew.all4 q x hx
        obtain ⟨l0, l1, l2, l3⟩ := (st.to hb).drew.all4 q y hy
        have HX := Lib.hid hx
        have HY := Lib.hid hy
        clear hx hy
        go_wp2_with fail
        have eqk := eq_acc x y
        unfold accC at eqk
        by_cases hxy : x = y
        · rw [decide_eq_true hxy] at eqk
          have HQ : Hid (s.take (q + 1) = t.take (q + 1)) := (show _ = _ by rw [List.take_add_one, List.take_add_one, heq.out, HX.out, HY.out, hxy])
          clear hxy
          refine wp_region_E [(0, true), (1, true), (2, true), (3, true), (4, true), (5, true), (6, true), (7, true), (8, true)] (by kernel_rfl) (by kernel_rfl) (by kernel_rfl) (by decide) (by intro d v c a w h; cases d <;> exact h) ?_
          repeat (first | (refine wpC_eq (v := ?_) rfl (by rfl) ?_ ?_; rotate_left; (· (go_simp; try with_reducible rfl)); simp only [Act.put, List.setIfInBounds_toArray, List.set_cons_zero, List.set_cons_succ]) | (refine wpC_skip rfl (by rfl) ?_; simp only [Act.put, List.setIfInBounds_toArray, List.set_cons_zero, List.set_cons_succ]))
          refine wpC_nil ?_
          go_wp2_with fail
          go_roundw
          case rel => exact ⟨q + 1, by go_num, by omega, HQ, hb.drew⟩
          case measure => simp [intOf]; omega
        · rw [decide_eq_false hxy] at eqk
          have e : ¬ s = t := fun h => hxy (by have := HX.out; rw [h, HY.out] at this; injection this with this; exact this.symm)
          clear hxy
          refine wp_region_E [(0, true), (1, true), (2, true), (3, true), (4, true), (5, true), (6, true), (7, true), (8, true)] (by kernel_rfl) (by kernel_rfl) (by kernel_rfl) (by decide) (by intro d v c a w h; cases d <;> exact h) ?_
          repeat (first | (refine wpC_eq (v := ?_) rfl (by rfl) ?_ ?_; rotate_left; (· (go_simp; try with_reducible rfl)); simp only [Act.put, List.setIfInBounds_toArray, List.set_cons_zero, List.set_cons_succ]) | (refine wpC_skip rfl (by rfl) ?_; simp only [Act.put, List.setIfInBounds_toArray, List.set_cons_zero, List.set_cons_succ]))
          refine wpC_nil ?_
          go_wp2_with fail
          go_ret
          exact ⟨by rw [decide_eq_false e]; try rfl, hb.drew⟩
      · obtain rfl : q = n := by omega
        have t1 : ¬ (q : Int) < (q : Int) := by omega
        have e : s = t := by
          have h := heq.out
          rwa [List.take_of_length_le (by omega), List.take_of_length_le (by omega)] at h
        go_wp2_with fail
        go_ret
        exact ⟨rfl, hb⟩
  · have t1 : ((n : Int) != (m : Int)) = true := by simp; omega
    have e : ¬ s = t := fun h => hnm (by rw [← hs, ← ht, h])
    go_enter Try.func29, Try.ntmps29
    go_wp2_with fail
    go_ret
    exact ⟨by rw [decide_eq_false e]; try rfl, Below.refl _ _⟩
end Go.Proofs.Ytakebmpnbdlcoaa
/- Two paths held against each other. -/
set_option linter.unusedSimpArgs false
set_option linter.unusedVariables false
namespace Go.Proofs.Ytakebmpnbdlcoaa
open Go.RowKit
set_option maxRecDepth 100000
theorem eqItems_paths (d : Nat) (a b : List (List UInt8)) (ha : ∀ x ∈ a, x.length = 32) (hb : ∀ x ∈ b, x.length = 32) (w : World) : ∀ l : List Nat, (∀ i ∈ l, i < a.length ∧ i < b.length) →
    (Op.eqItems (d + 2) 27 32 (H8 a).toArray (H8 b).toArray l).run Try.prog w = .ok (decide (∀ i ∈ l, a[i]? = b[i]?)) w
  | [], _ => by simp [Op.eqItems]
  | i :: l, h => by
    obtain ⟨h1, h2⟩ := h i (by simp)
    have pa := run_part_row (P := Try.prog) Try.underlying27 rfl info_h (H8 a).toArray (i * 32) w
    have pb := run_part_row (P := Try.prog) Try.underlying27 rfl info_h (H8 b).toArray (i * 32) w
    rw [H8_cut a ha i a[i] (List.getElem?_eq_getElem h1)] at pa
    rw [H8_cut b hb i b[i] (List.getElem?_eq_getElem h2)] at pb
    have ih := eqItems_paths d a b ha hb w l (fun j hj => h j (by simp [hj]))
    obtain ⟨iu, hiu⟩ := info_u8'
    have hq := eq_bytes (P := Try.prog) Try.underlying27 Try.underlying5 hiu (by kernel_rfl) d a[i] b[i] (ha _ (List.getElem_mem h1)) (hb _ (List.getElem_mem h2)) w
    unfold Op.eqItems
    rw [Sem.run_bind, pa, Result.andThen_ok, Sem.run_bind, pb, Result.andThen_ok, Sem.run_bind, hq, Result.andThen_ok]
    by_cases hab : a[i] = b[i]
    · rw [decide_eq_true hab]
      simp only [Bool.not_true, Bool.false_eq_true, if_false]
      rw [ih]
      congr 1
      simp [h1, h2, hab]
    · rw [decide_eq_false hab]
      simp only [Bool.not_false, if_true]
      have hd : (decide (∀ j ∈ i :: l, a[j]? = b[j]?)) = false := by
        rw [decide_eq_false_iff_not]
        intro hall
        have := hall i (by simp)
        simp [h1, h2] at this
        exact hab this
      rw [hd]
      rfl
theorem eq_paths (a b : List (List UInt8)) (ha : a.length = 8) (hb : b.length = 8) (ha2 : ∀ x ∈ a, x.length = 32) (hb2 : ∀ x ∈ b, x.length = 32) (w : World) :
    (Op.equalIn 10000 41 (.agg (H8 a).toArray) (.agg (H8 b).toArray)).run Try.prog w = .ok (decide (a = b)) w := by
  obtain ⟨ih, hih⟩ : ∃ i, Try.prog.info? 27 = some i := by
    have h := info_h
    cases hq : Try.prog.info? 27 with
    | none => rw [hq] at h; cases h
    | some i => exact ⟨i, rfl⟩
  have hc : Try.prog.cellsOf 27 = 32 := by kernel_rfl
  rw [run_equalIn_array w 9999 _ _ Try.underlying41 hih, hc, eqItems_paths 9997 a b ha2 hb2 w (List.range 8) (fun i hi => by simp at hi; omega)]
  congr 1
  rw [decide_eq_decide]
  constructor
  · intro h
    refine List.ext_getElem? fun j => ?_
    rcases Nat.lt_or_ge j 8 with hj | hj
    · exact h j (by simpa using hj)
    · rw [List.getElem?_eq_none (by omega), List.getElem?_eq_none (by omega)]
  · rintro rfl
    exact fun _ _ => rfl
theorem eq_path0 (w : World) : (Op.equalIn 10000 41 (.agg (H8 path0).toArray) (.agg (H8 path0).toArray)).run Try.prog w = .ok true w := by
  rw [eq_paths path0 path0 rfl rfl path0_all path0_all w, decide_eq_true rfl]
end Go.Proofs.Ytakebmpnbdlcoaa
/- The walk of capstanlaw7.TreeAsks. -/
set_option linter.unusedSimpArgs false
set_option linter.unusedVariables false
namespace Go.Proofs.Ytakebmpnbdlcoaa
open Go.RowKit
set_option maxRecDepth 100000
theorem eq_pself (a : List (List UInt8)) (ha : a.length = 8) (ha2 : ∀ x ∈ a, x.length = 32) (w : World) : (Op.equalIn 10000 41 (.agg (H8 a).toArray) (.agg (H8 a).toArray)).run Try.prog w = .ok true w := by
  rw [eq_paths a a ha ha ha2 ha2 w, decide_eq_true rfl]
set_option maxRecDepth 100000 in
set_option maxHeartbeats 8000000 in
theorem treeAsks_walk (w : World) (A : Option Addr) (n c : Nat) (z : List Int) (hnc : n ≤ c) (hcm : c ≤ maxLen) (zb : ∀ x ∈ z, -9223372036854775808 ≤ x ∧ x < 9223372036854775808) (sl : Sl w 1 A n (z.map (Value.int .i64)))
    (x : Acc) (hx : x.wf) (a : Int) (a_lo : -9223372036854775808 ≤ a) (a_hi : a < 9223372036854775808) (p : List (List UInt8)) (hp : p.length = 8) (hpa : ∀ y ∈ p, y.length = 32) :
    Calls Try.prog 6 #[.slice A n c, accV x, .int .i64 a, pv p] w (RB true w) := by
  have hm : maxLen = 9223372036854775807 := rfl
  unfold accV pv
  obtain ⟨W, HW, hbw, bx, bp⟩ : ∃ W, Hid (W = (w.alloc (.cells (accC x).toArray 23)).alloc (.cells (H8 p).toArray 41)) ∧ Below w.heap.size w W ∧ Blk W w.heap.size 23 (accC x) ∧ Blk W (w.heap.size + 1) 41 (H8 p) := by
    refine ⟨_, rfl, ((Below.refl _ _).alloc (Nat.le_refl _) _).alloc (by simp) _, ?_, ?_⟩
    · exact (Blk.new w (accC x).toArray 23).to ((Below.refl _ _).alloc (Nat.le_refl _) _)
    · have := Blk.new (w.alloc (.cells (accC x).toArray 23)) (H8 p).toArray 41
      rw [show (w.alloc (.cells (accC x).toArray 23)).heap.size = w.heap.size + 1 from by simp] at this
      exact this
  have HX := Lib.hid hx
  have HP := Lib.hid hp
  have HPA := Lib.hid hpa
  have IPP := Lib.hid (info_path hp hpa)
  have slW := sl.to hbw
  clear hx hp hpa sl
  go_enter Try.func6, Try.ntmps6
  go_upto_region 1 with fail
  refine wp_at HW.out ?_
  clear HW
  go_wp2_with fail
  refine (treeKnown_any W).mono ?_
  rintro e w1 ⟨rfl, h1⟩
  go_wp2_with fail
  refine (of_any A n c z w1 (slW.to h1) zb (by omega)).mono ?_
  rintro e w2 ⟨v, s, rfl, hv2, hs, hsm, h2⟩
  have f1 := hbw.trans (h1.mono hbw.size)
  have f2 := f1.trans (h2.mono f1.size)
  have bx2 := (bx.to h1).to h2
  have bp2 := (bp.to h1).to h2
  have HS := Lib.hid hs
  have HWF := Lib.hid (st_wf hs hsm)
  clear hs hsm slW zb h1 h2 bx bp hbw f1
  go_wp2_with fail
  refine (stProve_any v s a w2 hv2 HS.out HWF.out).mono ?_
  rintro e w3 ⟨rfl, h3⟩
  have hql := proveS_len s a
  have hqa := proveS_all s a
  obtain ⟨q, hq⟩ : ∃ p, proveS s a = p := ⟨_, rfl⟩
  rw [hq] at hql hqa ⊢
  have HQ := Lib.hid hq
  have HQL := Lib.hid hql
  have HQA := Lib.hid hqa
  have HQN : Hid ((H8 q).length = 256) := (show _ = _ by rw [H8_len _ hqa, hql])
  have IPQ := Lib.hid (info_path hql hqa)
  have bx3 := bx2.to h3
  have bp3 := bp2.to h3
  have hv3 := hv2.to h3
  have f3 := f2.trans (h3.mono f2.size)
  clear hq hql hqa bx2 bp2 hv2 f2 h3
  unfold pv
  go_wp2_with (first
    | (refine wpl_store_new rfl _ _ _ rfl 41 _ (H8 q) rfl rfl (by rw [HQN.out]; kernel_rfl) IPQ.out (H8_one _) ?_
       intro w4 bq4 h4
       simp only [Act.put, List.setIfInBounds_toArray, List.set_cons_zero, List.set_cons_succ]))
  refine (within_capstanlaw7 a 256 w4 (by omega) (by omega) a_lo a_hi).mono ?_
  rintro e w4' ⟨rfl, rfl⟩
  obtain ⟨i, hi⟩ : ∃ i, a % 256 = i := ⟨_, rfl⟩
  have hi1 : 0 ≤ i ∧ i < 256 := by omega
  rw [hi]
  have HI := Lib.hid hi
  clear hi
  have bx4 := bx3.to h4
  have bp4 := bp3.to h4
  have hv4 := hv3.to h4
  have f4 := f3.trans (h4.mono f3.size)
  clear bx3 bp3 hv3 f3 h4
  go_wp2_with fail
  refine (stProve_any v s i w4 hv4 HS.out HWF.out).mono ?_
  rintro e w5 ⟨rfl, h5⟩
  have hrl := proveS_len s i
  have hra := proveS_all s i
  obtain ⟨r, hr⟩ : ∃ p, proveS s i = p := ⟨_, rfl⟩
  rw [hr] at hrl hra ⊢
  have HRP := Lib.hid hr
  have HRPL := Lib.hid hrl
  have HRPA := Lib.hid hra
  have HRPN : Hid ((H8 r).length = 256) := (show _ = _ by rw [H8_len _ hra, hrl])
  have IPR := Lib.hid (info_path hrl hra)
  have bx5 := bx4.to h5
  have bp5 := bp4.to h5
  have bq5 := bq4.to h5
  have hv5 := hv4.to h5
  have f5 := f4.trans (h5.mono f4.size)
  clear hr hrl hra bx4 bp4 bq4 hv4 f4 h5
  obtain ⟨l1, hl1⟩ : ∃ l, leafS x = l := ⟨_, rfl⟩
  have HL := Lib.hid hl1
  have HL1 : Hid (l1.length = 32) := (show _ = _ by rw [← hl1]; exact leafS_len x)
  obtain ⟨rt, hrt⟩ : ∃ l, rootJ 8 (leavesL s) = l := ⟨_, rfl⟩
  have HR := Lib.hid hrt
  have HRL : Hid (rt.length = 32) := (show _ = _ by rw [← hrt]; exact root_len s)
  obtain ⟨u1, hu1⟩ : ∃ l, upA x p = l := ⟨_, rfl⟩
  have HU1 := Lib.hid hu1
  have HU1L : Hid (u1.length = 32) := (show _ = _ by rw [← hu1]; exact upA_len _ _)
  obtain ⟨u2, hu2⟩ : ∃ l, upA x q = l := ⟨_, rfl⟩
  have HU2 := Lib.hid hu2
  have HU2L : Hid (u2.length = 32) := (show _ = _ by rw [← hu2]; exact upA_len _ _)
  clear hl1 hrt hu1 hu2
  unfold pv
  go_wp2_with (first
    | (refine wpl_store_new rfl _ _ _ rfl 41 _ (H8 r) rfl rfl (by rw [HRPN.out]; kernel_rfl) IPR.out (H8_one _) ?_
       intro w6 br6 h6
       simp only [Act.put, List.setIfInBounds_toArray, List.set_cons_zero, List.set_cons_succ]))
  have bx6 := bx5.to h6
  have bp6 := bp5.to h6
  have bq6 := bq5.to h6
  have hv6 := hv5.to h6
  have f6 := f5.trans (h6.mono f5.size)
  clear bx5 bp5 bq5 hv5 f5 h6
  refine wp_region_P (.take 0 (.take 2 (.one 1 (.one 3 (.take 4 (.take 5 (.take 6 (.take 8 (.one 7 (.one 9 (.take 10 (.take 11 (.take 12 (.take 13 (.take 14 (.take 15 (.one 16 (.take 17 (.take 18 (.take 19 (.take 20 (.take 21 (.take 22 (.one 23 (.one 24 (.take 25 (.take 26 (.take 27 (.take 28 (.take 29 (.take 31 (.take 32 (.one 30 (.one 33 (.take 34 (.take 35 (.take 36 (.take 37 (.take 38 (.take 40 (.take 41 (.one 39 (.one 42 (.take 43 (.take 44 (.take 45 .done)))))))))))))))))))))))))))))))))))))))))))))) (Below w6.drew.heap.size) (by kernel_rfl) (by kernel_rfl) (by kernel_rfl) (by decide +kernel) (Below.refl _) (fun _ _ _ => Below.trans) (by intro d v c a w h; first | (cases d <;> exact h) | exact absurd h.1 (by simp)) ?_
  have bxd : Blk w6.drew w.heap.size 23 (accC x) := bx6
  have bpd : Blk w6.drew (w.heap.size + 1) 41 (H8 p) := bp6
  have bqd : Blk w6.drew w3.heap.size 41 (H8 q) := bq6
  have brd : Blk w6.drew w5.heap.size 41 (H8 r) := br6
  have hvd : StV w6.drew v s := hv6.drew
  have fd : Below w.heap.size w w6.drew := f6.drew
  clear bx6 bp6 bq6 br6 hv6 f6
  generalize w6.drew = V0 at *
  have fb : Below V0.heap.size V0 V0 := Below.refl _ _
  have hNx := bxd.lt
  have hNp := bpd.lt
  have hNq := bqd.lt
  have hNr := brd.lt
  refine wpP_load rfl (by rfl) _ _ rfl w.heap.size 0 rfl (accC x) _ (fun w' h => (bxd.below (fb.trans h) hNx).range) Try.underlying23 rfl info_acc ?_
  simp only [Act.put, List.setIfInBounds_toArray, List.set_cons_zero, List.set_cons_succ]
  refine wpP_load rfl (by rfl) _ _ rfl w.heap.size 0 rfl (accC x) _ (fun w' h => (bxd.below (fb.trans h) hNx).range) Try.underlying23 rfl info_acc ?_
  simp only [Act.put, List.setIfInBounds_toArray, List.set_cons_zero, List.set_cons_succ]
  refine wpP_one ?_
  refine wpP_loud rfl (by rfl) ?_
  intro K hK
  go_simp
  refine (leaf_any x HX.out _).mono ?_
  rintro e Vn ⟨rfl, hb⟩
  rw [HL.out]
  unfold hv
  refine hK.out _ _ (hb.mono fb.size) ?_
  clear hK K
  try simp only [Act.put, List.setIfInBounds_toArray, List.set_cons_zero, List.set_cons_succ]
  replace fb := fb.trans (hb.mono fb.size)
  clear hb
  refine wpP_one ?_
  refine wpP_loud rfl (by rfl) ?_
  intro K hK
  go_simp
  refine (refLeaf_any x HX.out _).mono ?_
  rintro e Vn ⟨rfl, hb⟩
  rw [HL.out]
  unfold hv
  refine hK.out _ _ (hb.mono fb.size) ?_
  clear hK K
  try simp only [Act.put, List.setIfInBounds_toArray, List.set_cons_zero, List.set_cons_succ]
  replace fb := fb.trans (hb.mono fb.size)
  clear hb
  have eqk := eq_self l1 HL1.out
  first | (refine wpP_quiet (v := ?_) rfl (by rfl) ?_ ?_; rotate_left; (· (intro w' hw'; go_simp; try with_reducible rfl)); simp only [Act.put, List.setIfInBounds_toArray, List.set_cons_zero, List.set_cons_succ]) | (refine wpP_skip rfl (by rfl) ?_; simp only [Act.put, List.setIfInBounds_toArray, List.set_cons_zero, List.set_cons_succ])
  clear eqk
  first | (refine wpP_quiet (v := ?_) rfl (by rfl) ?_ ?_; rotate_left; (· (intro w' hw'; go_simp; try with_reducible rfl)); simp only [Act.put, List.setIfInBounds_toArray, List.set_cons_zero, List.set_cons_succ]) | (refine wpP_skip rfl (by rfl) ?_; simp only [Act.put, List.setIfInBounds_toArray, List.set_cons_zero, List.set_cons_succ])
  first | (refine wpP_quiet (v := ?_) rfl (by rfl) ?_ ?_; rotate_left; (· (intro w' hw'; go_simp; try with_reducible rfl)); simp only [Act.put, List.setIfInBounds_toArray, List.set_cons_zero, List.set_cons_succ]) | (refine wpP_skip rfl (by rfl) ?_; simp only [Act.put, List.setIfInBounds_toArray, List.set_cons_zero, List.set_cons_succ])
  first | (refine wpP_quiet (v := ?_) rfl (by rfl) ?_ ?_; rotate_left; (· (intro w' hw'; go_simp; try with_reducible rfl)); simp only [Act.put, List.setIfInBounds_toArray, List.set_cons_zero, List.set_cons_succ]) | (refine wpP_skip rfl (by rfl) ?_; simp only [Act.put, List.setIfInBounds_toArray, List.set_cons_zero, List.set_cons_succ])
  refine wpP_one ?_
  refine wpP_loud rfl (by rfl) ?_
  intro K hK
  go_simp
  refine (stRoot_any v s _ (hvd.to fb) HS.out HWF.out).mono ?_
  rintro e Vn ⟨rfl, hb⟩
  rw [HR.out]
  unfold hv
  refine hK.out _ _ (hb.mono fb.size) ?_
  clear hK K
  try simp only [Act.put, List.setIfInBounds_toArray, List.set_cons_zero, List.set_cons_succ]
  replace fb := fb.trans (hb.mono fb.size)
  clear hb
  refine wpP_one ?_
  refine wpP_loud rfl (by rfl) ?_
  intro K hK
  go_simp
  refine (stRefRoot_any v s _ (hvd.to fb) HS.out HWF.out).mono ?_
  rintro e Vn ⟨rfl, hb⟩
  rw [HR.out]
  unfold hv
  refine hK.out _ _ (hb.mono fb.size) ?_
  clear hK K
  try simp only [Act.put, List.setIfInBounds_toArray, List.set_cons_zero, List.set_cons_succ]
  replace fb := fb.trans (hb.mono fb.size)
  clear hb
  have eqk := eq_self rt HRL.out
  first | (refine wpP_quiet (v := ?_) rfl (by rfl) ?_ ?_; rotate_left; (· (intro w' hw'; go_simp; try with_reducible rfl)); simp only [Act.put, List.setIfInBounds_toArray, List.set_cons_zero, List.set_cons_succ]) | (refine wpP_skip rfl (by rfl) ?_; simp only [Act.put, List.setIfInBounds_toArray, List.set_cons_zero, List.set_cons_succ])
  clear eqk
  first | (refine wpP_quiet (v := ?_) rfl (by rfl) ?_ ?_; rotate_left; (· (intro w' hw'; go_simp; try with_reducible rfl)); simp only [Act.put, List.setIfInBounds_toArray, List.set_cons_zero, List.set_cons_succ]) | (refine wpP_skip rfl (by rfl) ?_; simp only [Act.put, List.setIfInBounds_toArray, List.set_cons_zero, List.set_cons_succ])
  first | (refine wpP_quiet (v := ?_) rfl (by rfl) ?_ ?_; rotate_left; (· (intro w' hw'; go_simp; try with_reducible rfl)); simp only [Act.put, List.setIfInBounds_toArray, List.set_cons_zero, List.set_cons_succ]) | (refine wpP_skip rfl (by rfl) ?_; simp only [Act.put, List.setIfInBounds_toArray, List.set_cons_zero, List.set_cons_succ])
  refine wpP_load rfl (by rfl) _ _ rfl w3.heap.size 0 rfl (H8 q) _ (fun w' h => (bqd.below (fb.trans h) hNq).range) Try.underlying41 rfl IPQ.out ?_
  simp only [Act.put, List.setIfInBounds_toArray, List.set_cons_zero, List.set_cons_succ]
  first | (refine wpP_quiet (v := ?_) rfl (by rfl) ?_ ?_; rotate_left; (· (intro w' hw'; go_simp; try with_reducible rfl)); simp only [Act.put, List.setIfInBounds_toArray, List.set_cons_zero, List.set_cons_succ]) | (refine wpP_skip rfl (by rfl) ?_; simp only [Act.put, List.setIfInBounds_toArray, List.set_cons_zero, List.set_cons_succ])
  first | (refine wpP_quiet (v := ?_) rfl (by rfl) ?_ ?_; rotate_left; (· (intro w' hw'; go_simp; try with_reducible rfl)); simp only [Act.put, List.setIfInBounds_toArray, List.set_cons_zero, List.set_cons_succ]) | (refine wpP_skip rfl (by rfl) ?_; simp only [Act.put, List.setIfInBounds_toArray, List.set_cons_zero, List.set_cons_succ])
  refine wpP_one ?_
  refine wpP_loud rfl (by rfl) ?_
  intro K hK
  go_simp
  refine (stRefProve_any v s a _ (hvd.to fb) HS.out HWF.out a_lo a_hi).mono ?_
  rintro e Vn ⟨rfl, hb⟩
  rw [HQ.out]
  unfold pv
  refine hK.out _ _ (hb.mono fb.size) ?_
  clear hK K
  try simp only [Act.put, List.setIfInBounds_toArray, List.set_cons_zero, List.set_cons_succ]
  replace fb := fb.trans (hb.mono fb.size)
  clear hb
  have eqk := eq_pself q HQL.out HQA.out
  first | (refine wpP_quiet (v := ?_) rfl (by rfl) ?_ ?_; rotate_left; (· (intro w' hw'; go_simp; try with_reducible rfl)); simp only [Act.put, List.setIfInBounds_toArray, List.set_cons_zero, List.set_cons_succ]) | (refine wpP_skip rfl (by rfl) ?_; simp only [Act.put, List.setIfInBounds_toArray, List.set_cons_zero, List.set_cons_succ])
  clear eqk
  first | (refine wpP_quiet (v := ?_) rfl (by rfl) ?_ ?_; rotate_left; (· (intro w' hw'; go_simp; try with_reducible rfl)); simp only [Act.put, List.setIfInBounds_toArray, List.set_cons_zero, List.set_cons_succ]) | (refine wpP_skip rfl (by rfl) ?_; simp only [Act.put, List.setIfInBounds_toArray, List.set_cons_zero, List.set_cons_succ])
  first | (refine wpP_quiet (v := ?_) rfl (by rfl) ?_ ?_; rotate_left; (· (intro w' hw'; go_simp; try with_reducible rfl)); simp only [Act.put, List.setIfInBounds_toArray, List.set_cons_zero, List.set_cons_succ]) | (refine wpP_skip rfl (by rfl) ?_; simp only [Act.put, List.setIfInBounds_toArray, List.set_cons_zero, List.set_cons_succ])
  refine wpP_load rfl (by rfl) _ _ rfl w5.heap.size 0 rfl (H8 r) _ (fun w' h => (brd.below (fb.trans h) hNr).range) Try.underlying41 rfl IPR.out ?_
  simp only [Act.put, List.setIfInBounds_toArray, List.set_cons_zero, List.set_cons_succ]
  first | (refine wpP_quiet (v := ?_) rfl (by rfl) ?_ ?_; rotate_left; (· (intro w' hw'; go_simp; try with_reducible rfl)); simp only [Act.put, List.setIfInBounds_toArray, List.set_cons_zero, List.set_cons_succ]) | (refine wpP_skip rfl (by rfl) ?_; simp only [Act.put, List.setIfInBounds_toArray, List.set_cons_zero, List.set_cons_succ])
  first | (refine wpP_quiet (v := ?_) rfl (by rfl) ?_ ?_; rotate_left; (· (intro w' hw'; go_simp; try with_reducible rfl)); simp only [Act.put, List.setIfInBounds_toArray, List.set_cons_zero, List.set_cons_succ]) | (refine wpP_skip rfl (by rfl) ?_; simp only [Act.put, List.setIfInBounds_toArray, List.set_cons_zero, List.set_cons_succ])
  refine wpP_one ?_
  refine wpP_loud rfl (by rfl) ?_
  intro K hK
  go_simp
  refine (within_capstanlaw7 a 256 _ (by omega) (by omega) a_lo a_hi).mono ?_
  rintro e Vn ⟨rfl, rfl⟩
  rw [HI.out]
  have hb := Below.refl Vn.heap.size Vn
  refine hK.out _ _ (hb.mono fb.size) ?_
  clear hK K
  try simp only [Act.put, List.setIfInBounds_toArray, List.set_cons_zero, List.set_cons_succ]
  replace fb := fb.trans (hb.mono fb.size)
  clear hb
  refine wpP_one ?_
  refine wpP_loud rfl (by rfl) ?_
  intro K hK
  go_simp
  refine (stRefProve_any v s i _ (hvd.to fb) HS.out HWF.out (by omega) (by omega)).mono ?_
  rintro e Vn ⟨rfl, hb⟩
  rw [HRP.out]
  unfold pv
  refine hK.out _ _ (hb.mono fb.size) ?_
  clear hK K
  try simp only [Act.put, List.setIfInBounds_toArray, List.set_cons_zero, List.set_cons_succ]
  replace fb := fb.trans (hb.mono fb.size)
  clear hb
  have eqk := eq_pself r HRPL.out HRPA.out
  first | (refine wpP_quiet (v := ?_) rfl (by rfl) ?_ ?_; rotate_left; (· (intro w' hw'; go_simp; try with_reducible rfl)); simp only [Act.put, List.setIfInBounds_toArray, List.set_cons_zero, List.set_cons_succ]) | (refine wpP_skip rfl (by rfl) ?_; simp only [Act.put, List.setIfInBounds_toArray, List.set_cons_zero, List.set_cons_succ])
  clear eqk
  first | (refine wpP_quiet (v := ?_) rfl (by rfl) ?_ ?_; rotate_left; (· (intro w' hw'; go_simp; try with_reducible rfl)); simp only [Act.put, List.setIfInBounds_toArray, List.set_cons_zero, List.set_cons_succ]) | (refine wpP_skip rfl (by rfl) ?_; simp only [Act.put, List.setIfInBounds_toArray, List.set_cons_zero, List.set_cons_succ])
  first | (refine wpP_quiet (v := ?_) rfl (by rfl) ?_ ?_; rotate_left; (· (intro w' hw'; go_simp; try with_reducible rfl)); simp only [Act.put, List.setIfInBounds_toArray, List.set_cons_zero, List.set_cons_succ]) | (refine wpP_skip rfl (by rfl) ?_; simp only [Act.put, List.setIfInBounds_toArray, List.set_cons_zero, List.set_cons_succ])
  refine wpP_load rfl (by rfl) _ _ rfl w.heap.size 0 rfl (accC x) _ (fun w' h => (bxd.below (fb.trans h) hNx).range) Try.underlying23 rfl info_acc ?_
  simp only [Act.put, List.setIfInBounds_toArray, List.set_cons_zero, List.set_cons_succ]
  refine wpP_load rfl (by rfl) _ _ rfl (w.heap.size + 1) 0 rfl (H8 p) _ (fun w' h => (bpd.below (fb.trans h) hNp).range) Try.underlying41 rfl IPP.out ?_
  simp only [Act.put, List.setIfInBounds_toArray, List.set_cons_zero, List.set_cons_succ]
  refine wpP_load rfl (by rfl) _ _ rfl w.heap.size 0 rfl (accC x) _ (fun w' h => (bxd.below (fb.trans h) hNx).range) Try.underlying23 rfl info_acc ?_
  simp only [Act.put, List.setIfInBounds_toArray, List.set_cons_zero, List.set_cons_succ]
  refine wpP_load rfl (by rfl) _ _ rfl (w.heap.size + 1) 0 rfl (H8 p) _ (fun w' h => (bpd.below (fb.trans h) hNp).range) Try.underlying41 rfl IPP.out ?_
  simp only [Act.put, List.setIfInBounds_toArray, List.set_cons_zero, List.set_cons_succ]
  refine wpP_one ?_
  refine wpP_loud rfl (by rfl) ?_
  intro K hK
  go_simp
  refine (up_any x HX.out p HP.out HPA.out _).mono ?_
  rintro e Vn ⟨rfl, hb⟩
  rw [HU1.out]
  unfold hv
  refine hK.out _ _ (hb.mono fb.size) ?_
  clear hK K
  try simp only [Act.put, List.setIfInBounds_toArray, List.set_cons_zero, List.set_cons_succ]
  replace fb := fb.trans (hb.mono fb.size)
  clear hb
  refine wpP_one ?_
  refine wpP_loud rfl (by rfl) ?_
  intro K hK
  go_simp
  refine (refUp_any x HX.out p HP.out HPA.out _).mono ?_
  rintro e Vn ⟨rfl, hb⟩
  rw [HU1.out]
  unfold hv
  refine hK.out _ _ (hb.mono fb.size) ?_
  clear hK K
  try simp only [Act.put, List.setIfInBounds_toArray, List.set_cons_zero, List.set_cons_succ]
  replace fb := fb.trans (hb.mono fb.size)
  clear hb
  have eqk := eq_self u1 HU1L.out
  first | (refine wpP_quiet (v := ?_) rfl (by rfl) ?_ ?_; rotate_left; (· (intro w' hw'; go_simp; try with_reducible rfl)); simp only [Act.put, List.setIfInBounds_toArray, List.set_cons_zero, List.set_cons_succ]) | (refine wpP_skip rfl (by rfl) ?_; simp only [Act.put, List.setIfInBounds_toArray, List.set_cons_zero, List.set_cons_succ])
  clear eqk
  first | (refine wpP_quiet (v := ?_) rfl (by rfl) ?_ ?_; rotate_left; (· (intro w' hw'; go_simp; try with_reducible rfl)); simp only [Act.put, List.setIfInBounds_toArray, List.set_cons_zero, List.set_cons_succ]) | (refine wpP_skip rfl (by rfl) ?_; simp only [Act.put, List.setIfInBounds_toArray, List.set_cons_zero, List.set_cons_succ])
  first | (refine wpP_quiet (v := ?_) rfl (by rfl) ?_ ?_; rotate_left; (· (intro w' hw'; go_simp; try with_reducible rfl)); simp only [Act.put, List.setIfInBounds_toArray, List.set_cons_zero, List.set_cons_succ]) | (refine wpP_skip rfl (by rfl) ?_; simp only [Act.put, List.setIfInBounds_toArray, List.set_cons_zero, List.set_cons_succ])
  refine wpP_load rfl (by rfl) _ _ rfl w.heap.size 0 rfl (accC x) _ (fun w' h => (bxd.below (fb.trans h) hNx).range) Try.underlying23 rfl info_acc ?_
  simp only [Act.put, List.setIfInBounds_toArray, List.set_cons_zero, List.set_cons_succ]
  refine wpP_load rfl (by rfl) _ _ rfl w3.heap.size 0 rfl (H8 q) _ (fun w' h => (bqd.below (fb.trans h) hNq).range) Try.underlying41 rfl IPQ.out ?_
  simp only [Act.put, List.setIfInBounds_toArray, List.set_cons_zero, List.set_cons_succ]
  refine wpP_load rfl (by rfl) _ _ rfl w.heap.size 0 rfl (accC x) _ (fun w' h => (bxd.below (fb.trans h) hNx).range) Try.underlying23 rfl info_acc ?_
  simp only [Act.put, List.setIfInBounds_toArray, List.set_cons_zero, List.set_cons_succ]
  refine wpP_load rfl (by rfl) _ _ rfl w3.heap.size 0 rfl (H8 q) _ (fun w' h => (bqd.below (fb.trans h) hNq).range) Try.underlying41 rfl IPQ.out ?_
  simp only [Act.put, List.setIfInBounds_toArray, List.set_cons_zero, List.set_cons_succ]
  refine wpP_one ?_
  refine wpP_loud rfl (by rfl) ?_
  intro K hK
  go_simp
  refine (up_any x HX.out q HQL.out HQA.out _).mono ?_
  rintro e Vn ⟨rfl, hb⟩
  rw [HU2.out]
  unfold hv
  refine hK.out _ _ (hb.mono fb.size) ?_
  clear hK K
  try simp only [Act.put, List.setIfInBounds_toArray, List.set_cons_zero, List.set_cons_succ]
  replace fb := fb.trans (hb.mono fb.size)
  clear hb
  refine wpP_one ?_
  refine wpP_loud rfl (by rfl) ?_
  intro K hK
  go_simp
  refine (refUp_any x HX.out q HQL.out HQA.out _).mono ?_
  rintro e Vn ⟨rfl, hb⟩
  rw [HU2.out]
  unfold hv
  refine hK.out _ _ (hb.mono fb.size) ?_
  clear hK K
  try simp only [Act.put, List.setIfInBounds_toArray, List.set_cons_zero, List.set_cons_succ]
  replace fb := fb.trans (hb.mono fb.size)
  clear hb
  have eqk := eq_self u2 HU2L.out
  first | (refine wpP_quiet (v := ?_) rfl (by rfl) ?_ ?_; rotate_left; (· (intro w' hw'; go_simp; try with_reducible rfl)); simp only [Act.put, List.setIfInBounds_toArray, List.set_cons_zero, List.set_cons_succ]) | (refine wpP_skip rfl (by rfl) ?_; simp only [Act.put, List.setIfInBounds_toArray, List.set_cons_zero, List.set_cons_succ])
  clear eqk
  first | (refine wpP_quiet (v := ?_) rfl (by rfl) ?_ ?_; rotate_left; (· (intro w' hw'; go_simp; try with_reducible rfl)); simp only [Act.put, List.setIfInBounds_toArray, List.set_cons_zero, List.set_cons_succ]) | (refine wpP_skip rfl (by rfl) ?_; simp only [Act.put, List.setIfInBounds_toArray, List.set_cons_zero, List.set_cons_succ])
  first | (refine wpP_quiet (v := ?_) rfl (by rfl) ?_ ?_; rotate_left; (· (intro w' hw'; go_simp; try with_reducible rfl)); simp only [Act.put, List.setIfInBounds_toArray, List.set_cons_zero, List.set_cons_succ]) | (refine wpP_skip rfl (by rfl) ?_; simp only [Act.put, List.setIfInBounds_toArray, List.set_cons_zero, List.set_cons_succ])
  refine wpP_done ?_
  go_wp2_with fail
  go_ret
  exact ⟨rfl, fd.trans (fb.mono fd.size)⟩
end Go.Proofs.Ytakebmpnbdlcoaa
