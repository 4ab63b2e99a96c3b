/- The texts of this claim, part I: words, plain laws, walks. -/
import Derived.Test.YtakebmpnbdlcoaaPartH
/- The walk of capstanlaw7.TreeTwo. -/
set_option linter.unusedSimpArgs false
set_option linter.unusedVariables false
namespace Go.Proofs.Ytakebmpnbdlcoaa
open Go.RowKit
set_option maxRecDepth 100000
/-- two numbers that are not one part at some bit -/
theorem part_bit : ∀ (d i j : Nat), i < 2 ^ d → j < 2 ^ d → i ≠ j → ∃ k, k < d ∧ (i / 2 ^ k) ^^^ (j / 2 ^ k) = 1
  | 0, i, j, hi, hj, h => by
    simp at hi hj
    omega
  | d + 1, i, j, hi, hj, h => by
    rw [Nat.pow_succ] at hi hj
    by_cases he : i / 2 = j / 2
    · refine ⟨0, by omega, ?_⟩
      rw [Nat.pow_zero, Nat.div_one, Nat.div_one]
      apply Nat.eq_of_testBit_eq
      intro b
      rw [Nat.testBit_xor]
      cases b with
      | zero => simp [Nat.testBit_zero]; omega
      | succ b => rw [Nat.testBit_succ, Nat.testBit_succ, he]; simp [Nat.testBit_succ]
    · obtain ⟨k, hk, hx⟩ := part_bit d (i / 2) (j / 2) (by omega) (by omega) he
      refine ⟨k + 1, by omega, ?_⟩
      rw [Nat.pow_succ, Nat.mul_comm, ← Nat.div_div_eq_div_mul, ← Nat.div_div_eq_div_mul]
      exact hx
set_option maxRecDepth 100000 in
set_option maxHeartbeats 8000000 in
theorem treeTwo_walk (w : World) (a : Int) (a_lo : -9223372036854775808 ≤ a) (a_hi : a < 9223372036854775808) (b : Int) (b_lo : -9223372036854775808 ≤ b) (b_hi : b < 9223372036854775808) (cc : Int) (c_lo : -9223372036854775808 ≤ cc) (c_hi : cc < 9223372036854775808) :
    Calls Try.prog 5 #[.int .i64 a, .int .i64 b, .int .i64 cc] w (RB true w) := by
  go_enter Try.func5, Try.ntmps5
  go_wp2_with fail
  refine (treeKnown_any w).mono ?_
  rintro e w1 ⟨rfl, h1⟩
  go_wp2_with fail
  refine (within_capstanlaw7 a 256 w1 (by omega) (by omega) a_lo a_hi).mono ?_
  rintro e w1' ⟨rfl, rfl⟩
  go_wp2_with fail
  refine (within_capstanlaw7 b 256 w1 (by omega) (by omega) b_lo b_hi).mono ?_
  rintro e w1' ⟨rfl, rfl⟩
  go_wp2_with fail
  refine (within_capstanlaw7 cc 50 w1 (by omega) (by omega) c_lo c_hi).mono ?_
  rintro e w1' ⟨rfl, rfl⟩
  obtain ⟨i, hi⟩ : ∃ i : Nat, a % 256 = (i : Int) := ⟨(a % 256).toNat, by omega⟩
  obtain ⟨j, hj⟩ : ∃ j : Nat, b % 256 = (j : Int) := ⟨(b % 256).toNat, by omega⟩
  obtain ⟨m, hm⟩ : ∃ m, cc % 50 = m := ⟨_, rfl⟩
  have hi1 : i < 256 := by omega
  have hj1 : j < 256 := by omega
  have hm1 : 0 ≤ m ∧ m < 50 := by omega
  rw [hi, hj, hm]
  clear hi hj hm a_lo a_hi b_lo b_hi c_lo c_hi
  by_cases hij : i = j
  · subst hij
    go_wp2_with fail
    go_ret
    exact ⟨rfl, h1⟩
  · have t1 : ((i : Int) == (j : Int)) = false := by simp; omega
    go_wp2_with fail
    have f2 : Below w1.heap.size w1 ((w1.alloc (.cells #[.int .i64 (i : Int), .int .i64 (1 + m), .int .i64 0, .int .i64 0] 23)).alloc (.cells #[.int .i64 (j : Int), .int .i64 (1 + m + 1), .int .i64 0, .int .i64 0] 23)) := ((Below.refl _ _).alloc (Nat.le_refl _) _).alloc (by simp) _
    have ba2 : Blk ((w1.alloc (.cells #[.int .i64 (i : Int), .int .i64 (1 + m), .int .i64 0, .int .i64 0] 23)).alloc (.cells #[.int .i64 (j : Int), .int .i64 (1 + m + 1), .int .i64 0, .int .i64 0] 23)) w1.heap.size 23 (accC (Acc.mk (i : Int) (1 + m) 0 0)) := (Blk.new w1 #[.int .i64 (i : Int), .int .i64 (1 + m), .int .i64 0, .int .i64 0] 23).to ((Below.refl _ _).alloc (Nat.le_refl _) _)
    have bb2 : Blk ((w1.alloc (.cells #[.int .i64 (i : Int), .int .i64 (1 + m), .int .i64 0, .int .i64 0] 23)).alloc (.cells #[.int .i64 (j : Int), .int .i64 (1 + m + 1), .int .i64 0, .int .i64 0] 23)) (w1.heap.size + 1) 23 (accC (Acc.mk (j : Int) (1 + m + 1) 0 0)) := (by
      have := Blk.new (w1.alloc (.cells #[.int .i64 (i : Int), .int .i64 (1 + m), .int .i64 0, .int .i64 0] 23)) #[.int .i64 (j : Int), .int .i64 (1 + m + 1), .int .i64 0, .int .i64 0] 23
      rw [show (w1.alloc (.cells #[.int .i64 (i : Int), .int .i64 (1 + m), .int .i64 0, .int .i64 0] 23)).heap.size = w1.heap.size + 1 from by simp] at this
      exact this)
    have f2' := h1.trans (f2.mono h1.size)
    have hw1 := h1.size
    generalize (w1.alloc (.cells #[.int .i64 (i : Int), .int .i64 (1 + m), .int .i64 0, .int .i64 0] 23)).alloc (.cells #[.int .i64 (j : Int), .int .i64 (1 + m + 1), .int .i64 0, .int .i64 0] 23) = w2 at *
    have HAS : Hid (Acc.small (Acc.mk (i : Int) (1 + m) 0 0)) := (show Acc.small _ from ⟨by show _ ∧ _; simp only []; omega, (by decide : (0 : Int) ≤ 0 ∧ (0 : Int) ≤ 1000), (by decide : (-1000 : Int) ≤ 0 ∧ (0 : Int) ≤ 1000)⟩)
    have HBS : Hid (Acc.small (Acc.mk (j : Int) (1 + m + 1) 0 0)) := (show Acc.small _ from ⟨by show _ ∧ _; simp only []; omega, (by decide : (0 : Int) ≤ 0 ∧ (0 : Int) ≤ 1000), (by decide : (-1000 : Int) ≤ 0 ∧ (0 : Int) ≤ 1000)⟩)
    have HAW : Hid (Acc.wf (Acc.mk (i : Int) (1 + m) 0 0)) := (show Acc.wf _ from wf_of_small (by show _ ∧ _; simp only []; omega) HAS.out)
    have HBW : Hid (Acc.wf (Acc.mk (j : Int) (1 + m + 1) 0 0)) := (show Acc.wf _ from wf_of_small (by show _ ∧ _; simp only []; omega) HBS.out)
    have HS1 : Hid (St (putS [] (Acc.mk (i : Int) (1 + m) 0 0))) := (show St _ from St.nil_.put (by show (0 : Int) ≤ (i : Int); omega) (by show (i : Int) < 256; omega))
    have HS2 : Hid (St (putS (putS [] (Acc.mk (i : Int) (1 + m) 0 0)) (Acc.mk (j : Int) (1 + m + 1) 0 0))) := (show St _ from HS1.out.put (by show (0 : Int) ≤ (j : Int); omega) (by show (j : Int) < 256; omega))
    have HWF : Hid (∀ x ∈ putS (putS [] (Acc.mk (i : Int) (1 + m) 0 0)) (Acc.mk (j : Int) (1 + m + 1) 0 0), x.wf) := (show ∀ x ∈ putS (putS [] (Acc.mk (i : Int) (1 + m) 0 0)) (Acc.mk (j : Int) (1 + m + 1) 0 0), x.wf from st_wf HS2.out (small_put HS1.out (small_put St.nil_ (by simp) HAS.out) HBS.out))
    clear h1 f2
    refine wp_region_P (.take 0 (.take 2 (.one 1 (.one 3 (.take 4 .done))))) (Below w2.drew.heap.size) (by kernel_rfl) (by kernel_rfl) (by kernel_rfl) (by decide +kernel) (Below.refl _) (fun _ _ _ => Below.trans) (by intro d v c a w h; first | (cases d <;> exact h) | exact absurd h.1 (by simp)) ?_
    have bad : Blk w2.drew w1.heap.size 23 (accC (Acc.mk (i : Int) (1 + m) 0 0)) := ba2
    have bbd : Blk w2.drew (w1.heap.size + 1) 23 (accC (Acc.mk (j : Int) (1 + m + 1) 0 0)) := bb2
    have fd : Below w.heap.size w w2.drew := f2'.drew
    clear ba2 bb2 f2'
    generalize w2.drew = V0 at *
    have fb : Below V0.heap.size V0 V0 := Below.refl _ _
    have hNa := bad.lt
    have hNb := bbd.lt
    refine wpP_load rfl (by rfl) _ _ rfl w1.heap.size 0 rfl (accC (Acc.mk (i : Int) (1 + m) 0 0)) _ (fun w' h => (bad.below (fb.trans h) hNa).range) Try.underlying23 rfl info_acc ?_
    simp only [Act.put, List.setIfInBounds_toArray, List.set_cons_zero, List.set_cons_succ]
    refine wpP_load rfl (by rfl) _ _ rfl (w1.heap.size + 1) 0 rfl (accC (Acc.mk (j : Int) (1 + m + 1) 0 0)) _ (fun w' h => (bbd.below (fb.trans h) hNb).range) Try.underlying23 rfl info_acc ?_
    simp only [Act.put, List.setIfInBounds_toArray, List.set_cons_zero, List.set_cons_succ]
    refine wpP_one ?_
    refine wpP_loud rfl (by rfl) ?_
    intro K hK
    go_simp
    refine (stPut_any (.slice none 0 0) [] (Acc.mk (i : Int) (1 + m) 0 0) _ (StV.nil_ _) St.nil_).mono ?_
    rintro e Vn ⟨va, rfl, hp_va, hb⟩
    refine hK.out _ _ (hb.mono fb.size) ?_
    clear hK K
    try simp only [Act.put, List.setIfInBounds_toArray, List.set_cons_zero, List.set_cons_succ]
    replace fb := fb.trans (hb.mono fb.size)
    clear hb
    refine wpP_one ?_
    refine wpP_loud rfl (by rfl) ?_
    intro K hK
    go_simp
    refine (stPut_any va (putS [] (Acc.mk (i : Int) (1 + m) 0 0)) (Acc.mk (j : Int) (1 + m + 1) 0 0) _ hp_va HS1.out).mono ?_
    rintro e Vn ⟨vb, rfl, hp_vb, hb⟩
    refine hK.out _ _ (hb.mono fb.size) ?_
    clear hK K
    try simp only [Act.put, List.setIfInBounds_toArray, List.set_cons_zero, List.set_cons_succ]
    replace fb := fb.trans (hb.mono fb.size)
    clear hb
    first | (refine wpP_quiet (v := ?_) rfl (by rfl) ?_ ?_; rotate_left; (· (intro w' hw'; go_simp; try with_reducible rfl)); simp only [Act.put, List.setIfInBounds_toArray, List.set_cons_zero, List.set_cons_succ]) | (refine wpP_skip rfl (by rfl) ?_; simp only [Act.put, List.setIfInBounds_toArray, List.set_cons_zero, List.set_cons_succ])
    refine wpP_done ?_
    have ba3 := bad.to fb
    have bb3 := bbd.to fb
    have f3 := fd.trans (fb.mono fd.size)
    obtain ⟨t, ht⟩ : ∃ t, putS (putS [] (Acc.mk (i : Int) (1 + m) 0 0)) (Acc.mk (j : Int) (1 + m + 1) 0 0) = t := ⟨_, rfl⟩
    rw [ht] at hp_vb HS2 HWF
    have HT := Lib.hid ht
    clear bad bbd fd hNa hNb hp_va fb ht
    obtain ⟨x0, hx0⟩ : ∃ l, leafS (Acc.mk (i : Int) (1 + m) 0 0) = l := ⟨_, rfl⟩
    have HX0 := Lib.hid hx0
    have HLA : Hid (x0.length = 32) := (show _ = _ by rw [← hx0]; exact leafS_len _)
    obtain ⟨y0, hy0⟩ : ∃ l, leafS (Acc.mk (j : Int) (1 + m + 1) 0 0) = l := ⟨_, rfl⟩
    have HY0 := Lib.hid hy0
    have HLB : Hid (y0.length = 32) := (show _ = _ by rw [← hy0]; exact leafS_len _)
    clear hx0 hy0
    go_wp2_with fail
    refine Code.wp_mono (Q := fun e aa w' => e = .normal ∧ ∃ p10 p11 : Nat, aa = ⟨#[.int .i64 (i : Int), .int .i64 (j : Int), .int .i64 (1 + m), undef, undef, undef, .bool false, .pointer (some ⟨w1.heap.size, 0, none⟩), .pointer (some ⟨w1.heap.size + 1, 0, none⟩), vb, .pointer (some ⟨p10, 0, none⟩), .pointer (some ⟨p11, 0, none⟩), undef, undef, .bool true, .bool false, .int .i64 a, .int .i64 (i : Int), .int .i64 b, .int .i64 (j : Int), .int .i64 cc, .int .i64 m, .int .i64 (1 + m), .int .i64 (i : Int), .int .i64 (j : Int), .bool false, .int .i64 (i : Int), .int .i64 (1 + m), .agg #[.int .i64 (i : Int), .int .i64 (1 + m), .int .i64 0, .int .i64 0], .int .i64 (j : Int), .int .i64 (1 + m), .int .i64 (1 + m + 1), .agg #[.int .i64 (j : Int), .int .i64 (1 + m + 1), .int .i64 0, .int .i64 0], .agg (accC (Acc.mk (i : Int) (1 + m) 0 0)).toArray, va, .agg (accC (Acc.mk (j : Int) (1 + m + 1) 0 0)).toArray, vb, .agg (accC (Acc.mk (i : Int) (1 + m) 0 0)).toArray, .agg (B8 x0).toArray, .agg (accC (Acc.mk (j : Int) (1 + m + 1) 0 0)).toArray, .agg (B8 y0).toArray, undef, undef, undef, undef, undef, undef, undef, undef, undef, undef, undef, undef, undef, undef, undef, undef, undef, undef, undef, undef, undef, undef, undef, undef, undef, undef, undef, undef, undef, undef, undef, undef, undef, undef, undef, undef, undef, undef, undef, undef, undef, undef, undef, undef, undef, undef, undef, undef, undef, undef, undef, undef, undef, undef, undef, undef, undef, undef, undef, undef], []⟩ ∧ Hid (Vn.heap.size ≤ p10) ∧ Hid (Vn.heap.size ≤ p11) ∧ Hid (p10 ≠ p11) ∧ Blk w' p10 27 (B8 x0) ∧ Blk w' p11 27 (B8 y0) ∧ Below Vn.heap.size Vn w') ?mid ?reg
    case reg =>
      refine wp_region_P (.take 0 (.take 2 (.three 1 (.three 3 (.two 4 (.one 5 (.one 6 (.one 7 .done))) 5 (.one 4 (.one 6 (.one 7 .done)))) 4 (.two 3 (.one 5 (.one 6 (.one 7 .done))) 5 (.one 3 (.one 6 (.one 7 .done)))) 5 (.two 3 (.one 4 (.one 6 (.one 7 .done))) 4 (.one 3 (.one 6 (.one 7 .done))))) 4 (.two 1 (.two 3 (.one 5 (.one 6 (.one 7 .done))) 5 (.one 3 (.one 6 (.one 7 .done)))) 5 (.one 1 (.one 3 (.one 6 (.one 7 .done))))) 5 (.two 1 (.two 3 (.one 4 (.one 6 (.one 7 .done))) 4 (.one 3 (.one 6 (.one 7 .done)))) 4 (.one 1 (.one 3 (.one 6 (.one 7 .done)))))))) (Below Vn.drew.heap.size) (by kernel_rfl) (by kernel_rfl) (by kernel_rfl) (by decide +kernel) (Below.refl _) (fun _ _ _ => Below.trans) (by intro d v c a w h; exact absurd h.1 (by simp)) ?_
      have bad : Blk Vn.drew w1.heap.size 23 (accC (Acc.mk (i : Int) (1 + m) 0 0)) := ba3
      have bbd : Blk Vn.drew (w1.heap.size + 1) 23 (accC (Acc.mk (j : Int) (1 + m + 1) 0 0)) := bb3
      have hQ : Vn.drew.heap.size = Vn.heap.size := rfl
      have hfd : Below Vn.heap.size Vn Vn.drew := (Below.refl _ _).drew
      generalize Vn.drew = V0 at *
      have HQ := Lib.hid hQ
      clear hQ
      obtain ⟨B0, hB0⟩ : ∃ B, V0.heap.size = B := ⟨_, rfl⟩
      rw [hB0]
      have HB0 := Lib.hid hB0
      have hNa : w1.heap.size < B0 := hB0 ▸ bad.lt
      have hNb : w1.heap.size + 1 < B0 := hB0 ▸ bbd.lt
      clear hB0
      have fb : Below B0 V0 V0 := Below.refl _ _
      refine wpP_load rfl (by rfl) _ _ rfl w1.heap.size 0 rfl (accC (Acc.mk (i : Int) (1 + m) 0 0)) _ (fun w' h => (bad.below (fb.trans h) hNa).range) Try.underlying23 rfl info_acc ?_
      simp only [Act.put, List.setIfInBounds_toArray, List.set_cons_zero, List.set_cons_succ]
      refine wpP_load rfl (by rfl) _ _ rfl (w1.heap.size + 1) 0 rfl (accC (Acc.mk (j : Int) (1 + m + 1) 0 0)) _ (fun w' h => (bbd.below (fb.trans h) hNb).range) Try.underlying23 rfl info_acc ?_
      simp only [Act.put, List.setIfInBounds_toArray, List.set_cons_zero, List.set_cons_succ]
      refine wpP_three ?_ ?_ ?_
      · refine wpP_loud rfl (by rfl) ?_
        intro K hK
        go_simp
        refine (leaf_any (Acc.mk (i : Int) (1 + m) 0 0) HAW.out V0).mono ?_
        rintro e V1 ⟨rfl, hb⟩
        rw [HX0.out]
        unfold hv
        refine hK.out _ _ (hb.mono (by have := fb.size; have := HB0.out; omega)) ?_
        clear hK K
        try simp only [Act.put, List.setIfInBounds_toArray, List.set_cons_zero, List.set_cons_succ]
        replace fb := fb.trans (hb.mono (by have := fb.size; have := HB0.out; omega))
        clear hb
        refine wpP_three ?_ ?_ ?_
        · refine wpP_loud rfl (by rfl) ?_
          intro K hK
          go_simp
          refine (leaf_any (Acc.mk (j : Int) (1 + m + 1) 0 0) HBW.out V1).mono ?_
          rintro e V2 ⟨rfl, hb⟩
          rw [HY0.out]
          unfold hv
          refine hK.out _ _ (hb.mono (by have := fb.size; have := HB0.out; omega)) ?_
          clear hK K
          try simp only [Act.put, List.setIfInBounds_toArray, List.set_cons_zero, List.set_cons_succ]
          replace fb := fb.trans (hb.mono (by have := fb.size; have := HB0.out; omega))
          clear hb
          refine wpP_two ?_ ?_
          · refine wpP_loud rfl (by rfl) ?_
            intro K hK
            have hb : Below V2.heap.size V2 (V2.alloc (.cells #[.int .u8 0, .int .u8 0, .int .u8 0, .int .u8 0, .int .u8 0, .int .u8 0, .int .u8 0, .int .u8 0, .int .u8 0, .int .u8 0, .int .u8 0, .int .u8 0, .int .u8 0, .int .u8 0, .int .u8 0, .int .u8 0, .int .u8 0, .int .u8 0, .int .u8 0, .int .u8 0, .int .u8 0, .int .u8 0, .int .u8 0, .int .u8 0, .int .u8 0, .int .u8 0, .int .u8 0, .int .u8 0, .int .u8 0, .int .u8 0, .int .u8 0, .int .u8 0] 27)) := (Below.refl _ _).alloc (Nat.le_refl _) _
            have b10 : Blk (V2.alloc (.cells #[.int .u8 0, .int .u8 0, .int .u8 0, .int .u8 0, .int .u8 0, .int .u8 0, .int .u8 0, .int .u8 0, .int .u8 0, .int .u8 0, .int .u8 0, .int .u8 0, .int .u8 0, .int .u8 0, .int .u8 0, .int .u8 0, .int .u8 0, .int .u8 0, .int .u8 0, .int .u8 0, .int .u8 0, .int .u8 0, .int .u8 0, .int .u8 0, .int .u8 0, .int .u8 0, .int .u8 0, .int .u8 0, .int .u8 0, .int .u8 0, .int .u8 0, .int .u8 0] 27)) V2.heap.size 27 (B8 zero32) := Blk.new V2 #[.int .u8 0, .int .u8 0, .int .u8 0, .int .u8 0, .int .u8 0, .int .u8 0, .int .u8 0, .int .u8 0, .int .u8 0, .int .u8 0, .int .u8 0, .int .u8 0, .int .u8 0, .int .u8 0, .int .u8 0, .int .u8 0, .int .u8 0, .int .u8 0, .int .u8 0, .int .u8 0, .int .u8 0, .int .u8 0, .int .u8 0, .int .u8 0, .int .u8 0, .int .u8 0, .int .u8 0, .int .u8 0, .int .u8 0, .int .u8 0, .int .u8 0, .int .u8 0] 27
            go_simp
            refine hK.out _ _ (hb.mono (by have := fb.size; have := HB0.out; omega)) ?_
            clear hK K
            try simp only [Act.put, List.setIfInBounds_toArray, List.set_cons_zero, List.set_cons_succ]
            obtain ⟨p10, hp10⟩ : ∃ p, p = V2.heap.size := ⟨_, rfl⟩
            have HP10 : Hid (B0 ≤ p10) := (show _ ≤ _ by rw [hp10]; have := fb.size; have := HB0.out; omega)
            rw [← hp10] at b10 ⊢
            clear hp10
            generalize V2.alloc (.cells #[.int .u8 0, .int .u8 0, .int .u8 0, .int .u8 0, .int .u8 0, .int .u8 0, .int .u8 0, .int .u8 0, .int .u8 0, .int .u8 0, .int .u8 0, .int .u8 0, .int .u8 0, .int .u8 0, .int .u8 0, .int .u8 0, .int .u8 0, .int .u8 0, .int .u8 0, .int .u8 0, .int .u8 0, .int .u8 0, .int .u8 0, .int .u8 0, .int .u8 0, .int .u8 0, .int .u8 0, .int .u8 0, .int .u8 0, .int .u8 0, .int .u8 0, .int .u8 0] 27) = V3 at *
            replace fb := fb.trans (hb.mono (by have := fb.size; have := HB0.out; omega))
            clear hb
            refine wpP_one ?_
            refine wpP_loud rfl (by rfl) ?_
            intro K hK
            have hb : Below V3.heap.size V3 (V3.alloc (.cells #[.int .u8 0, .int .u8 0, .int .u8 0, .int .u8 0, .int .u8 0, .int .u8 0, .int .u8 0, .int .u8 0, .int .u8 0, .int .u8 0, .int .u8 0, .int .u8 0, .int .u8 0, .int .u8 0, .int .u8 0, .int .u8 0, .int .u8 0, .int .u8 0, .int .u8 0, .int .u8 0, .int .u8 0, .int .u8 0, .int .u8 0, .int .u8 0, .int .u8 0, .int .u8 0, .int .u8 0, .int .u8 0, .int .u8 0, .int .u8 0, .int .u8 0, .int .u8 0] 27)) := (Below.refl _ _).alloc (Nat.le_refl _) _
            have b11 : Blk (V3.alloc (.cells #[.int .u8 0, .int .u8 0, .int .u8 0, .int .u8 0, .int .u8 0, .int .u8 0, .int .u8 0, .int .u8 0, .int .u8 0, .int .u8 0, .int .u8 0, .int .u8 0, .int .u8 0, .int .u8 0, .int .u8 0, .int .u8 0, .int .u8 0, .int .u8 0, .int .u8 0, .int .u8 0, .int .u8 0, .int .u8 0, .int .u8 0, .int .u8 0, .int .u8 0, .int .u8 0, .int .u8 0, .int .u8 0, .int .u8 0, .int .u8 0, .int .u8 0, .int .u8 0] 27)) V3.heap.size 27 (B8 zero32) := Blk.new V3 #[.int .u8 0, .int .u8 0, .int .u8 0, .int .u8 0, .int .u8 0, .int .u8 0, .int .u8 0, .int .u8 0, .int .u8 0, .int .u8 0, .int .u8 0, .int .u8 0, .int .u8 0, .int .u8 0, .int .u8 0, .int .u8 0, .int .u8 0, .int .u8 0, .int .u8 0, .int .u8 0, .int .u8 0, .int .u8 0, .int .u8 0, .int .u8 0, .int .u8 0, .int .u8 0, .int .u8 0, .int .u8 0, .int .u8 0, .int .u8 0, .int .u8 0, .int .u8 0] 27
            go_simp
            refine hK.out _ _ (hb.mono (by have := fb.size; have := HB0.out; omega)) ?_
            clear hK K
            try simp only [Act.put, List.setIfInBounds_toArray, List.set_cons_zero, List.set_cons_succ]
            obtain ⟨p11, hp11⟩ : ∃ p, p = V3.heap.size := ⟨_, rfl⟩
            have HP11 : Hid (B0 ≤ p11) := (show _ ≤ _ by rw [hp11]; have := fb.size; have := HB0.out; omega)
            have hne : Hid (p10 ≠ p11) := (show _ ≠ _ by have := b10.lt; omega)
            rw [← hp11] at b11 ⊢
            clear hp11
            generalize V3.alloc (.cells #[.int .u8 0, .int .u8 0, .int .u8 0, .int .u8 0, .int .u8 0, .int .u8 0, .int .u8 0, .int .u8 0, .int .u8 0, .int .u8 0, .int .u8 0, .int .u8 0, .int .u8 0, .int .u8 0, .int .u8 0, .int .u8 0, .int .u8 0, .int .u8 0, .int .u8 0, .int .u8 0, .int .u8 0, .int .u8 0, .int .u8 0, .int .u8 0, .int .u8 0, .int .u8 0, .int .u8 0, .int .u8 0, .int .u8 0, .int .u8 0, .int .u8 0, .int .u8 0] 27) = V4 at *
            replace b10 := b10.to hb
            replace fb := fb.trans (hb.mono (by have := fb.size; have := HB0.out; omega))
            clear hb
            refine wpP_one ?_
            refine wpP_loud rfl (by rfl) ?_
            intro K hK
            refine wp_store_fld _ _ _ rfl p10 0 _ _ (B8 x0) rfl _ rfl rfl b10 (by rw [B8_len, HLA.out]; decide) (info_hash HLA.out) (B8_one _) ?_
            intro V5 bn u
            rw [put_all _ _ (by rw [B8_len, HLA.out]; rfl)] at bn
            refine hK.out _ _ (below_but u HP10.out (by have := fb.size; have := HB0.out; omega)) ?_
            clear hK K
            try simp only [Act.put, List.setIfInBounds_toArray, List.set_cons_zero, List.set_cons_succ]
            replace b11 := b11.but u (by intro e; injection e with e; exact hne.out e.symm)
            clear b10
            have b10 := bn
            clear bn
            replace fb := fb.trans (below_but u HP10.out (by have := fb.size; have := HB0.out; omega))
            clear u
            refine wpP_one ?_
            refine wpP_loud rfl (by rfl) ?_
            intro K hK
            refine wp_store_fld _ _ _ rfl p11 0 _ _ (B8 y0) rfl _ rfl rfl b11 (by rw [B8_len, HLB.out]; decide) (info_hash HLB.out) (B8_one _) ?_
            intro V6 bn u
            rw [put_all _ _ (by rw [B8_len, HLB.out]; rfl)] at bn
            refine hK.out _ _ (below_but u HP11.out (by have := fb.size; have := HB0.out; omega)) ?_
            clear hK K
            try simp only [Act.put, List.setIfInBounds_toArray, List.set_cons_zero, List.set_cons_succ]
            replace b10 := b10.but u (by intro e; injection e with e; exact hne.out e)
            clear b11
            have b11 := bn
            clear bn
            replace fb := fb.trans (below_but u HP11.out (by have := fb.size; have := HB0.out; omega))
            clear u
            refine wpP_done ?_
            exact ⟨rfl, p10, p11, rfl, (show _ ≤ _ by rw [← HQ.out, HB0.out]; exact HP10.out), (show _ ≤ _ by rw [← HQ.out, HB0.out]; exact HP11.out), hne, b10, b11, hfd.trans (by rw [← HQ.out, HB0.out]; exact fb)⟩
          · refine wpP_loud rfl (by rfl) ?_
            intro K hK
            have hb : Below V2.heap.size V2 (V2.alloc (.cells #[.int .u8 0, .int .u8 0, .int .u8 0, .int .u8 0, .int .u8 0, .int .u8 0, .int .u8 0, .int .u8 0, .int .u8 0, .int .u8 0, .int .u8 0, .int .u8 0, .int .u8 0, .int .u8 0, .int .u8 0, .int .u8 0, .int .u8 0, .int .u8 0, .int .u8 0, .int .u8 0, .int .u8 0, .int .u8 0, .int .u8 0, .int .u8 0, .int .u8 0, .int .u8 0, .int .u8 0, .int .u8 0, .int .u8 0, .int .u8 0, .int .u8 0, .int .u8 0] 27)) := (Below.refl _ _).alloc (Nat.le_refl _) _
            have b11 : Blk (V2.alloc (.cells #[.int .u8 0, .int .u8 0, .int .u8 0, .int .u8 0, .int .u8 0, .int .u8 0, .int .u8 0, .int .u8 0, .int .u8 0, .int .u8 0, .int .u8 0, .int .u8 0, .int .u8 0, .int .u8 0, .int .u8 0, .int .u8 0, .int .u8 0, .int .u8 0, .int .u8 0, .int .u8 0, .int .u8 0, .int .u8 0, .int .u8 0, .int .u8 0, .int .u8 0, .int .u8 0, .int .u8 0, .int .u8 0, .int .u8 0, .int .u8 0, .int .u8 0, .int .u8 0] 27)) V2.heap.size 27 (B8 zero32) := Blk.new V2 #[.int .u8 0, .int .u8 0, .int .u8 0, .int .u8 0, .int .u8 0, .int .u8 0, .int .u8 0, .int .u8 0, .int .u8 0, .int .u8 0, .int .u8 0, .int .u8 0, .int .u8 0, .int .u8 0, .int .u8 0, .int .u8 0, .int .u8 0, .int .u8 0, .int .u8 0, .int .u8 0, .int .u8 0, .int .u8 0, .int .u8 0, .int .u8 0, .int .u8 0, .int .u8 0, .int .u8 0, .int .u8 0, .int .u8 0, .int .u8 0, .int .u8 0, .int .u8 0] 27
            go_simp
            refine hK.out _ _ (hb.mono (by have := fb.size; have := HB0.out; omega)) ?_
            clear hK K
            try simp only [Act.put, List.setIfInBounds_toArray, List.set_cons_zero, List.set_cons_succ]
            obtain ⟨p11, hp11⟩ : ∃ p, p = V2.heap.size := ⟨_, rfl⟩
            have HP11 : Hid (B0 ≤ p11) := (show _ ≤ _ by rw [hp11]; have := fb.size; have := HB0.out; omega)
            rw [← hp11] at b11 ⊢
            clear hp11
            generalize V2.alloc (.cells #[.int .u8 0, .int .u8 0, .int .u8 0, .int .u8 0, .int .u8 0, .int .u8 0, .int .u8 0, .int .u8 0, .int .u8 0, .int .u8 0, .int .u8 0, .int .u8 0, .int .u8 0, .int .u8 0, .int .u8 0, .int .u8 0, .int .u8 0, .int .u8 0, .int .u8 0, .int .u8 0, .int .u8 0, .int .u8 0, .int .u8 0, .int .u8 0, .int .u8 0, .int .u8 0, .int .u8 0, .int .u8 0, .int .u8 0, .int .u8 0, .int .u8 0, .int .u8 0] 27) = V3 at *
            replace fb := fb.trans (hb.mono (by have := fb.size; have := HB0.out; omega))
            clear hb
            refine wpP_one ?_
            refine wpP_loud rfl (by rfl) ?_
            intro K hK
            have hb : Below V3.heap.size V3 (V3.alloc (.cells #[.int .u8 0, .int .u8 0, .int .u8 0, .int .u8 0, .int .u8 0, .int .u8 0, .int .u8 0, .int .u8 0, .int .u8 0, .int .u8 0, .int .u8 0, .int .u8 0, .int .u8 0, .int .u8 0, .int .u8 0, .int .u8 0, .int .u8 0, .int .u8 0, .int .u8 0, .int .u8 0, .int .u8 0, .int .u8 0, .int .u8 0, .int .u8 0, .int .u8 0, .int .u8 0, .int .u8 0, .int .u8 0, .int .u8 0, .int .u8 0, .int .u8 0, .int .u8 0] 27)) := (Below.refl _ _).alloc (Nat.le_refl _) _
            have b10 : Blk (V3.alloc (.cells #[.int .u8 0, .int .u8 0, .int .u8 0, .int .u8 0, .int .u8 0, .int .u8 0, .int .u8 0, .int .u8 0, .int .u8 0, .int .u8 0, .int .u8 0, .int .u8 0, .int .u8 0, .int .u8 0, .int .u8 0, .int .u8 0, .int .u8 0, .int .u8 0, .int .u8 0, .int .u8 0, .int .u8 0, .int .u8 0, .int .u8 0, .int .u8 0, .int .u8 0, .int .u8 0, .int .u8 0, .int .u8 0, .int .u8 0, .int .u8 0, .int .u8 0, .int .u8 0] 27)) V3.heap.size 27 (B8 zero32) := Blk.new V3 #[.int .u8 0, .int .u8 0, .int .u8 0, .int .u8 0, .int .u8 0, .int .u8 0, .int .u8 0, .int .u8 0, .int .u8 0, .int .u8 0, .int .u8 0, .int .u8 0, .int .u8 0, .int .u8 0, .int .u8 0, .int .u8 0, .int .u8 0, .int .u8 0, .int .u8 0, .int .u8 0, .int .u8 0, .int .u8 0, .int .u8 0, .int .u8 0, .int .u8 0, .int .u8 0, .int .u8 0, .int .u8 0, .int .u8 0, .int .u8 0, .int .u8 0, .int .u8 0] 27
            go_simp
            refine hK.out _ _ (hb.mono (by have := fb.size; have := HB0.out; omega)) ?_
            clear hK K
            try simp only [Act.put, List.setIfInBounds_toArray, List.set_cons_zero, List.set_cons_succ]
            obtain ⟨p10, hp10⟩ : ∃ p, p = V3.heap.size := ⟨_, rfl⟩
            have HP10 : Hid (B0 ≤ p10) := (show _ ≤ _ by rw [hp10]; have := fb.size; have := HB0.out; omega)
            have hne : Hid (p10 ≠ p11) := (show _ ≠ _ by have := b11.lt; omega)
            rw [← hp10] at b10 ⊢
            clear hp10
            generalize V3.alloc (.cells #[.int .u8 0, .int .u8 0, .int .u8 0, .int .u8 0, .int .u8 0, .int .u8 0, .int .u8 0, .int .u8 0, .int .u8 0, .int .u8 0, .int .u8 0, .int .u8 0, .int .u8 0, .int .u8 0, .int .u8 0, .int .u8 0, .int .u8 0, .int .u8 0, .int .u8 0, .int .u8 0, .int .u8 0, .int .u8 0, .int .u8 0, .int .u8 0, .int .u8 0, .int .u8 0, .int .u8 0, .int .u8 0, .int .u8 0, .int .u8 0, .int .u8 0, .int .u8 0] 27) = V4 at *
            replace b11 := b11.to hb
            replace fb := fb.trans (hb.mono (by have := fb.size; have := HB0.out; omega))
            clear hb
            refine wpP_one ?_
            refine wpP_loud rfl (by rfl) ?_
            intro K hK
            refine wp_store_fld _ _ _ rfl p10 0 _ _ (B8 x0) rfl _ rfl rfl b10 (by rw [B8_len, HLA.out]; decide) (info_hash HLA.out) (B8_one _) ?_
            intro V5 bn u
            rw [put_all _ _ (by rw [B8_len, HLA.out]; rfl)] at bn
            refine hK.out _ _ (below_but u HP10.out (by have := fb.size; have := HB0.out; omega)) ?_
            clear hK K
            try simp only [Act.put, List.setIfInBounds_toArray, List.set_cons_zero, List.set_cons_succ]
            replace b11 := b11.but u (by intro e; injection e with e; exact hne.out e.symm)
            clear b10
            have b10 := bn
            clear bn
            replace fb := fb.trans (below_but u HP10.out (by have := fb.size; have := HB0.out; omega))
            clear u
            refine wpP_one ?_
            refine wpP_loud rfl (by rfl) ?_
            intro K hK
            refine wp_store_fld _ _ _ rfl p11 0 _ _ (B8 y0) rfl _ rfl rfl b11 (by rw [B8_len, HLB.out]; decide) (info_hash HLB.out) (B8_one _) ?_
            intro V6 bn u
            rw [put_all _ _ (by rw [B8_len, HLB.out]; rfl)] at bn
            refine hK.out _ _ (below_but u HP11.out (by have := fb.size; have := HB0.out; omega)) ?_
            clear hK K
            try simp only [Act.put, List.setIfInBounds_toArray, List.set_cons_zero, List.set_cons_succ]
            replace b10 := b10.but u (by intro e; injection e with e; exact hne.out e)
            clear b11
            have b11 := bn
            clear bn
            replace fb := fb.trans (below_but u HP11.out (by have := fb.size; have := HB0.out; omega))
            clear u
            refine wpP_done ?_
            exact ⟨rfl, p10, p11, rfl, (show _ ≤ _ by rw [← HQ.out, HB0.out]; exact HP10.out), (show _ ≤ _ by rw [← HQ.out, HB0.out]; exact HP11.out), hne, b10, b11, hfd.trans (by rw [← HQ.out, HB0.out]; exact fb)⟩
        · refine wpP_loud rfl (by rfl) ?_
          intro K hK
          have hb : Below V1.heap.size V1 (V1.alloc (.cells #[.int .u8 0, .int .u8 0, .int .u8 0, .int .u8 0, .int .u8 0, .int .u8 0, .int .u8 0, .int .u8 0, .int .u8 0, .int .u8 0, .int .u8 0, .int .u8 0, .int .u8 0, .int .u8 0, .int .u8 0, .int .u8 0, .int .u8 0, .int .u8 0, .int .u8 0, .int .u8 0, .int .u8 0, .int .u8 0, .int .u8 0, .int .u8 0, .int .u8 0, .int .u8 0, .int .u8 0, .int .u8 0, .int .u8 0, .int .u8 0, .int .u8 0, .int .u8 0] 27)) := (Below.refl _ _).alloc (Nat.le_refl _) _
          have b10 : Blk (V1.alloc (.cells #[.int .u8 0, .int .u8 0, .int .u8 0, .int .u8 0, .int .u8 0, .int .u8 0, .int .u8 0, .int .u8 0, .int .u8 0, .int .u8 0, .int .u8 0, .int .u8 0, .int .u8 0, .int .u8 0, .int .u8 0, .int .u8 0, .int .u8 0, .int .u8 0, .int .u8 0, .int .u8 0, .int .u8 0, .int .u8 0, .int .u8 0, .int .u8 0, .int .u8 0, .int .u8 0, .int .u8 0, .int .u8 0, .int .u8 0, .int .u8 0, .int .u8 0, .int .u8 0] 27)) V1.heap.size 27 (B8 zero32) := Blk.new V1 #[.int .u8 0, .int .u8 0, .int .u8 0, .int .u8 0, .int .u8 0, .int .u8 0, .int .u8 0, .int .u8 0, .int .u8 0, .int .u8 0, .int .u8 0, .int .u8 0, .int .u8 0, .int .u8 0, .int .u8 0, .int .u8 0, .int .u8 0, .int .u8 0, .int .u8 0, .int .u8 0, .int .u8 0, .int .u8 0, .int .u8 0, .int .u8 0, .int .u8 0, .int .u8 0, .int .u8 0, .int .u8 0, .int .u8 0, .int .u8 0, .int .u8 0, .int .u8 0] 27
          go_simp
          refine hK.out _ _ (hb.mono (by have := fb.size; have := HB0.out; omega)) ?_
          clear hK K
          try simp only [Act.put, List.setIfInBounds_toArray, List.set_cons_zero, List.set_cons_succ]
          obtain ⟨p10, hp10⟩ : ∃ p, p = V1.heap.size := ⟨_, rfl⟩
          have HP10 : Hid (B0 ≤ p10) := (show _ ≤ _ by rw [hp10]; have := fb.size; have := HB0.out; omega)
          rw [← hp10] at b10 ⊢
          clear hp10
          generalize V1.alloc (.cells #[.int .u8 0, .int .u8 0, .int .u8 0, .int .u8 0, .int .u8 0, .int .u8 0, .int .u8 0, .int .u8 0, .int .u8 0, .int .u8 0, .int .u8 0, .int .u8 0, .int .u8 0, .int .u8 0, .int .u8 0, .int .u8 0, .int .u8 0, .int .u8 0, .int .u8 0, .int .u8 0, .int .u8 0, .int .u8 0, .int .u8 0, .int .u8 0, .int .u8 0, .int .u8 0, .int .u8 0, .int .u8 0, .int .u8 0, .int .u8 0, .int .u8 0, .int .u8 0] 27) = V2 at *
          replace fb := fb.trans (hb.mono (by have := fb.size; have := HB0.out; omega))
          clear hb
          refine wpP_two ?_ ?_
          · refine wpP_loud rfl (by rfl) ?_
            intro K hK
            go_simp
            refine (leaf_any (Acc.mk (j : Int) (1 + m + 1) 0 0) HBW.out V2).mono ?_
            rintro e V3 ⟨rfl, hb⟩
            rw [HY0.out]
            unfold hv
            refine hK.out _ _ (hb.mono (by have := fb.size; have := HB0.out; omega)) ?_
            clear hK K
            try simp only [Act.put, List.setIfInBounds_toArray, List.set_cons_zero, List.set_cons_succ]
            replace b10 := b10.to hb
            replace fb := fb.trans (hb.mono (by have := fb.size; have := HB0.out; omega))
            clear hb
            refine wpP_one ?_
            refine wpP_loud rfl (by rfl) ?_
            intro K hK
            have hb : Below V3.heap.size V3 (V3.alloc (.cells #[.int .u8 0, .int .u8 0, .int .u8 0, .int .u8 0, .int .u8 0, .int .u8 0, .int .u8 0, .int .u8 0, .int .u8 0, .int .u8 0, .int .u8 0, .int .u8 0, .int .u8 0, .int .u8 0, .int .u8 0, .int .u8 0, .int .u8 0, .int .u8 0, .int .u8 0, .int .u8 0, .int .u8 0, .int .u8 0, .int .u8 0, .int .u8 0, .int .u8 0, .int .u8 0, .int .u8 0, .int .u8 0, .int .u8 0, .int .u8 0, .int .u8 0, .int .u8 0] 27)) := (Below.refl _ _).alloc (Nat.le_refl _) _
            have b11 : Blk (V3.alloc (.cells #[.int .u8 0, .int .u8 0, .int .u8 0, .int .u8 0, .int .u8 0, .int .u8 0, .int .u8 0, .int .u8 0, .int .u8 0, .int .u8 0, .int .u8 0, .int .u8 0, .int .u8 0, .int .u8 0, .int .u8 0, .int .u8 0, .int .u8 0, .int .u8 0, .int .u8 0, .int .u8 0, .int .u8 0, .int .u8 0, .int .u8 0, .int .u8 0, .int .u8 0, .int .u8 0, .int .u8 0, .int .u8 0, .int .u8 0, .int .u8 0, .int .u8 0, .int .u8 0] 27)) V3.heap.size 27 (B8 zero32) := Blk.new V3 #[.int .u8 0, .int .u8 0, .int .u8 0, .int .u8 0, .int .u8 0, .int .u8 0, .int .u8 0, .int .u8 0, .int .u8 0, .int .u8 0, .int .u8 0, .int .u8 0, .int .u8 0, .int .u8 0, .int .u8 0, .int .u8 0, .int .u8 0, .int .u8 0, .int .u8 0, .int .u8 0, .int .u8 0, .int .u8 0, .int .u8 0, .int .u8 0, .int .u8 0, .int .u8 0, .int .u8 0, .int .u8 0, .int .u8 0, .int .u8 0, .int .u8 0, .int .u8 0] 27
            go_simp
            refine hK.out _ _ (hb.mono (by have := fb.size; have := HB0.out; omega)) ?_
            clear hK K
            try simp only [Act.put, List.setIfInBounds_toArray, List.set_cons_zero, List.set_cons_succ]
            obtain ⟨p11, hp11⟩ : ∃ p, p = V3.heap.size := ⟨_, rfl⟩
            have HP11 : Hid (B0 ≤ p11) := (show _ ≤ _ by rw [hp11]; have := fb.size; have := HB0.out; omega)
            have hne : Hid (p10 ≠ p11) := (show _ ≠ _ by have := b10.lt; omega)
            rw [← hp11] at b11 ⊢
            clear hp11
            generalize V3.alloc (.cells #[.int .u8 0, .int .u8 0, .int .u8 0, .int .u8 0, .int .u8 0, .int .u8 0, .int .u8 0, .int .u8 0, .int .u8 0, .int .u8 0, .int .u8 0, .int .u8 0, .int .u8 0, .int .u8 0, .int .u8 0, .int .u8 0, .int .u8 0, .int .u8 0, .int .u8 0, .int .u8 0, .int .u8 0, .int .u8 0, .int .u8 0, .int .u8 0, .int .u8 0, .int .u8 0, .int .u8 0, .int .u8 0, .int .u8 0, .int .u8 0, .int .u8 0, .int .u8 0] 27) = V4 at *
            replace b10 := b10.to hb
            replace fb := fb.trans (hb.mono (by have := fb.size; have := HB0.out; omega))
            clear hb
            refine wpP_one ?_
            refine wpP_loud rfl (by rfl) ?_
            intro K hK
            refine wp_store_fld _ _ _ rfl p10 0 _ _ (B8 x0) rfl _ rfl rfl b10 (by rw [B8_len, HLA.out]; decide) (info_hash HLA.out) (B8_one _) ?_
            intro V5 bn u
            rw [put_all _ _ (by rw [B8_len, HLA.out]; rfl)] at bn
            refine hK.out _ _ (below_but u HP10.out (by have := fb.size; have := HB0.out; omega)) ?_
            clear hK K
            try simp only [Act.put, List.setIfInBounds_toArray, List.set_cons_zero, List.set_cons_succ]
            replace b11 := b11.but u (by intro e; injection e with e; exact hne.out e.symm)
            clear b10
            have b10 := bn
            clear bn
            replace fb := fb.trans (below_but u HP10.out (by have := fb.size; have := HB0.out; omega))
            clear u
            refine wpP_one ?_
            refine wpP_loud rfl (by rfl) ?_
            intro K hK
            refine wp_store_fld _ _ _ rfl p11 0 _ _ (B8 y0) rfl _ rfl rfl b11 (by rw [B8_len, HLB.out]; decide) (info_hash HLB.out) (B8_one _) ?_
            intro V6 bn u
            rw [put_all _ _ (by rw [B8_len, HLB.out]; rfl)] at bn
            refine hK.out _ _ (below_but u HP11.out (by have := fb.size; have := HB0.out; omega)) ?_
            clear hK K
            try simp only [Act.put, List.setIfInBounds_toArray, List.set_cons_zero, List.set_cons_succ]
            replace b10 := b10.but u (by intro e; injection e with e; exact hne.out e)
            clear b11
            have b11 := bn
            clear bn
            replace fb := fb.trans (below_but u HP11.out (by have := fb.size; have := HB0.out; omega))
            clear u
            refine wpP_done ?_
            exact ⟨rfl, p10, p11, rfl, (show _ ≤ _ by rw [← HQ.out, HB0.out]; exact HP10.out), (show _ ≤ _ by rw [← HQ.out, HB0.out]; exact HP11.out), hne, b10, b11, hfd.trans (by rw [← HQ.out, HB0.out]; exact fb)⟩
          · refine wpP_loud rfl (by rfl) ?_
            intro K hK
            have hb : Below V2.heap.size V2 (V2.alloc (.cells #[.int .u8 0, .int .u8 0, .int .u8 0, .int .u8 0, .int .u8 0, .int .u8 0, .int .u8 0, .int .u8 0, .int .u8 0, .int .u8 0, .int .u8 0, .int .u8 0, .int .u8 0, .int .u8 0, .int .u8 0, .int .u8 0, .int .u8 0, .int .u8 0, .int .u8 0, .int .u8 0, .int .u8 0, .int .u8 0, .int .u8 0, .int .u8 0, .int .u8 0, .int .u8 0, .int .u8 0, .int .u8 0, .int .u8 0, .int .u8 0, .int .u8 0, .int .u8 0] 27)) := (Below.refl _ _).alloc (Nat.le_refl _) _
            have b11 : Blk (V2.alloc (.cells #[.int .u8 0, .int .u8 0, .int .u8 0, .int .u8 0, .int .u8 0, .int .u8 0, .int .u8 0, .int .u8 0, .int .u8 0, .int .u8 0, .int .u8 0, .int .u8 0, .int .u8 0, .int .u8 0, .int .u8 0, .int .u8 0, .int .u8 0, .int .u8 0, .int .u8 0, .int .u8 0, .int .u8 0, .int .u8 0, .int .u8 0, .int .u8 0, .int .u8 0, .int .u8 0, .int .u8 0, .int .u8 0, .int .u8 0, .int .u8 0, .int .u8 0, .int .u8 0] 27)) V2.heap.size 27 (B8 zero32) := Blk.new V2 #[.int .u8 0, .int .u8 0, .int .u8 0, .int .u8 0, .int .u8 0, .int .u8 0, .int .u8 0, .int .u8 0, .int .u8 0, .int .u8 0, .int .u8 0, .int .u8 0, .int .u8 0, .int .u8 0, .int .u8 0, .int .u8 0, .int .u8 0, .int .u8 0, .int .u8 0, .int .u8 0, .int .u8 0, .int .u8 0, .int .u8 0, .int .u8 0, .int .u8 0, .int .u8 0, .int .u8 0, .int .u8 0, .int .u8 0, .int .u8 0, .int .u8 0, .int .u8 0] 27
            go_simp
            refine hK.out _ _ (hb.mono (by have := fb.size; have := HB0.out; omega)) ?_
            clear hK K
            try simp only [Act.put, List.setIfInBounds_toArray, List.set_cons_zero, List.set_cons_succ]
            obtain ⟨p11, hp11⟩ : ∃ p, p = V2.heap.size := ⟨_, rfl⟩
            have HP11 : Hid (B0 ≤ p11) := (show _ ≤ _ by rw [hp11]; have := fb.size; have := HB0.out; omega)
            have hne : Hid (p10 ≠ p11) := (show _ ≠ _ by have := b10.lt; omega)
            rw [← hp11] at b11 ⊢
            clear hp11
            generalize V2.alloc (.cells #[.int .u8 0, .int .u8 0, .int .u8 0, .int .u8 0, .int .u8 0, .int .u8 0, .int .u8 0, .int .u8 0, .int .u8 0, .int .u8 0, .int .u8 0, .int .u8 0, .int .u8 0, .int .u8 0, .int .u8 0, .int .u8 0, .int .u8 0, .int .u8 0, .int .u8 0, .int .u8 0, .int .u8 0, .int .u8 0, .int .u8 0, .int .u8 0, .int .u8 0, .int .u8 0, .int .u8 0, .int .u8 0, .int .u8 0, .int .u8 0, .int .u8 0, .int .u8 0] 27) = V3 at *
            replace b10 := b10.to hb
            replace fb := fb.trans (hb.mono (by have := fb.size; have := HB0.out; omega))
            clear hb
            refine wpP_one ?_
            refine wpP_loud rfl (by rfl) ?_
            intro K hK
            go_simp
            refine (leaf_any (Acc.mk (j : Int) (1 + m + 1) 0 0) HBW.out V3).mono ?_
            rintro e V4 ⟨rfl, hb⟩
            rw [HY0.out]
            unfold hv
            refine hK.out _ _ (hb.mono (by have := fb.size; have := HB0.out; omega)) ?_
            clear hK K
            try simp only [Act.put, List.setIfInBounds_toArray, List.set_cons_zero, List.set_cons_succ]
            replace b10 := b10.to hb
            replace b11 := b11.to hb
            replace fb := fb.trans (hb.mono (by have := fb.size; have := HB0.out; omega))
            clear hb
            refine wpP_one ?_
            refine wpP_loud rfl (by rfl) ?_
            intro K hK
            refine wp_store_fld _ _ _ rfl p10 0 _ _ (B8 x0) rfl _ rfl rfl b10 (by rw [B8_len, HLA.out]; decide) (info_hash HLA.out) (B8_one _) ?_
            intro V5 bn u
            rw [put_all _ _ (by rw [B8_len, HLA.out]; rfl)] at bn
            refine hK.out _ _ (below_but u HP10.out (by have := fb.size; have := HB0.out; omega)) ?_
            clear hK K
            try simp only [Act.put, List.setIfInBounds_toArray, List.set_cons_zero, List.set_cons_succ]
            replace b11 := b11.but u (by intro e; injection e with e; exact hne.out e.symm)
            clear b10
            have b10 := bn
            clear bn
            replace fb := fb.trans (below_but u HP10.out (by have := fb.size; have := HB0.out; omega))
            clear u
            refine wpP_one ?_
            refine wpP_loud rfl (by rfl) ?_
            intro K hK
            refine wp_store_fld _ _ _ rfl p11 0 _ _ (B8 y0) rfl _ rfl rfl b11 (by rw [B8_len, HLB.out]; decide) (info_hash HLB.out) (B8_one _) ?_
            intro V6 bn u
            rw [put_all _ _ (by rw [B8_len, HLB.out]; rfl)] at bn
            refine hK.out _ _ (below_but u HP11.out (by have := fb.size; have := HB0.out; omega)) ?_
            clear hK K
            try simp only [Act.put, List.setIfInBounds_toArray, List.set_cons_zero, List.set_cons_succ]
            replace b10 := b10.but u (by intro e; injection e with e; exact hne.out e)
            clear b11
            have b11 := bn
            clear bn
            replace fb := fb.trans (below_but u HP11.out (by have := fb.size; have := HB0.out; omega))
            clear u
            refine wpP_done ?_
            exact ⟨rfl, p10, p11, rfl, (show _ ≤ _ by rw [← HQ.out, HB0.out]; exact HP10.out), (show _ ≤ _ by rw [← HQ.out, HB0.out]; exact HP11.out), hne, b10, b11, hfd.trans (by rw [← HQ.out, HB0.out]; exact fb)⟩
        · refine wpP_loud rfl (by rfl) ?_
          intro K hK
          have hb : Below V1.heap.size V1 (V1.alloc (.cells #[.int .u8 0, .int .u8 0, .int .u8 0, .int .u8 0, .int .u8 0, .int .u8 0, .int .u8 0, .int .u8 0, .int .u8 0, .int .u8 0, .int .u8 0, .int .u8 0, .int .u8 0, .int .u8 0, .int .u8 0, .int .u8 0, .int .u8 0, .int .u8 0, .int .u8 0, .int .u8 0, .int .u8 0, .int .u8 0, .int .u8 0, .int .u8 0, .int .u8 0, .int .u8 0, .int .u8 0, .int .u8 0, .int .u8 0, .int .u8 0, .int .u8 0, .int .u8 0] 27)) := (Below.refl _ _).alloc (Nat.le_refl _) _
          have b11 : Blk (V1.alloc (.cells #[.int .u8 0, .int .u8 0, .int .u8 0, .int .u8 0, .int .u8 0, .int .u8 0, .int .u8 0, .int .u8 0, .int .u8 0, .int .u8 0, .int .u8 0, .int .u8 0, .int .u8 0, .int .u8 0, .int .u8 0, .int .u8 0, .int .u8 0, .int .u8 0, .int .u8 0, .int .u8 0, .int .u8 0, .int .u8 0, .int .u8 0, .int .u8 0, .int .u8 0, .int .u8 0, .int .u8 0, .int .u8 0, .int .u8 0, .int .u8 0, .int .u8 0, .int .u8 0] 27)) V1.heap.size 27 (B8 zero32) := Blk.new V1 #[.int .u8 0, .int .u8 0, .int .u8 0, .int .u8 0, .int .u8 0, .int .u8 0, .int .u8 0, .int .u8 0, .int .u8 0, .int .u8 0, .int .u8 0, .int .u8 0, .int .u8 0, .int .u8 0, .int .u8 0, .int .u8 0, .int .u8 0, .int .u8 0, .int .u8 0, .int .u8 0, .int .u8 0, .int .u8 0, .int .u8 0, .int .u8 0, .int .u8 0, .int .u8 0, .int .u8 0, .int .u8 0, .int .u8 0, .int .u8 0, .int .u8 0, .int .u8 0] 27
          go_simp
          refine hK.out _ _ (hb.mono (by have := fb.size; have := HB0.out; omega)) ?_
          clear hK K
          try simp only [Act.put, List.setIfInBounds_toArray, List.set_cons_zero, List.set_cons_succ]
          obtain ⟨p11, hp11⟩ : ∃ p, p = V1.heap.size := ⟨_, rfl⟩
          have HP11 : Hid (B0 ≤ p11) := (show _ ≤ _ by rw [hp11]; have := fb.size; have := HB0.out; omega)
          rw [← hp11] at b11 ⊢
          clear hp11
          generalize V1.alloc (.cells #[.int .u8 0, .int .u8 0, .int .u8 0, .int .u8 0, .int .u8 0, .int .u8 0, .int .u8 0, .int .u8 0, .int .u8 0, .int .u8 0, .int .u8 0, .int .u8 0, .int .u8 0, .int .u8 0, .int .u8 0, .int .u8 0, .int .u8 0, .int .u8 0, .int .u8 0, .int .u8 0, .int .u8 0, .int .u8 0, .int .u8 0, .int .u8 0, .int .u8 0, .int .u8 0, .int .u8 0, .int .u8 0, .int .u8 0, .int .u8 0, .int .u8 0, .int .u8 0] 27) = V2 at *
          replace fb := fb.trans (hb.mono (by have := fb.size; have := HB0.out; omega))
          clear hb
          refine wpP_two ?_ ?_
          · refine wpP_loud rfl (by rfl) ?_
            intro K hK
            go_simp
            refine (leaf_any (Acc.mk (j : Int) (1 + m + 1) 0 0) HBW.out V2).mono ?_
            rintro e V3 ⟨rfl, hb⟩
            rw [HY0.out]
            unfold hv
            refine hK.out _ _ (hb.mono (by have := fb.size; have := HB0.out; omega)) ?_
            clear hK K
            try simp only [Act.put, List.setIfInBounds_toArray, List.set_cons_zero, List.set_cons_succ]
            replace b11 := b11.to hb
            replace fb := fb.trans (hb.mono (by have := fb.size; have := HB0.out; omega))
            clear hb
            refine wpP_one ?_
            refine wpP_loud rfl (by rfl) ?_
            intro K hK
            have hb : Below V3.heap.size V3 (V3.alloc (.cells #[.int .u8 0, .int .u8 0, .int .u8 0, .int .u8 0, .int .u8 0, .int .u8 0, .int .u8 0, .int .u8 0, .int .u8 0, .int .u8 0, .int .u8 0, .int .u8 0, .int .u8 0, .int .u8 0, .int .u8 0, .int .u8 0, .int .u8 0, .int .u8 0, .int .u8 0, .int .u8 0, .int .u8 0, .int .u8 0, .int .u8 0, .int .u8 0, .int .u8 0, .int .u8 0, .int .u8 0, .int .u8 0, .int .u8 0, .int .u8 0, .int .u8 0, .int .u8 0] 27)) := (Below.refl _ _).alloc (Nat.le_refl _) _
            have b10 : Blk (V3.alloc (.cells #[.int .u8 0, .int .u8 0, .int .u8 0, .int .u8 0, .int .u8 0, .int .u8 0, .int .u8 0, .int .u8 0, .int .u8 0, .int .u8 0, .int .u8 0, .int .u8 0, .int .u8 0, .int .u8 0, .int .u8 0, .int .u8 0, .int .u8 0, .int .u8 0, .int .u8 0, .int .u8 0, .int .u8 0, .int .u8 0, .int .u8 0, .int .u8 0, .int .u8 0, .int .u8 0, .int .u8 0, .int .u8 0, .int .u8 0, .int .u8 0, .int .u8 0, .int .u8 0] 27)) V3.heap.size 27 (B8 zero32) := Blk.new V3 #[.int .u8 0, .int .u8 0, .int .u8 0, .int .u8 0, .int .u8 0, .int .u8 0, .int .u8 0, .int .u8 0, .int .u8 0, .int .u8 0, .int .u8 0, .int .u8 0, .int .u8 0, .int .u8 0, .int .u8 0, .int .u8 0, .int .u8 0, .int .u8 0, .int .u8 0, .int .u8 0, .int .u8 0, .int .u8 0, .int .u8 0, .int .u8 0, .int .u8 0, .int .u8 0, .int .u8 0, .int .u8 0, .int .u8 0, .int .u8 0, .int .u8 0, .int .u8 0] 27
            go_simp
            refine hK.out _ _ (hb.mono (by have := fb.size; have := HB0.out; omega)) ?_
            clear hK K
            try simp only [Act.put, List.setIfInBounds_toArray, List.set_cons_zero, List.set_cons_succ]
            obtain ⟨p10, hp10⟩ : ∃ p, p = V3.heap.size := ⟨_, rfl⟩
            have HP10 : Hid (B0 ≤ p10) := (show _ ≤ _ by rw [hp10]; have := fb.size; have := HB0.out; omega)
            have hne : Hid (p10 ≠ p11) := (show _ ≠ _ by have := b11.lt; omega)
            rw [← hp10] at b10 ⊢
            clear hp10
            generalize V3.alloc (.cells #[.int .u8 0, .int .u8 0, .int .u8 0, .int .u8 0, .int .u8 0, .int .u8 0, .int .u8 0, .int .u8 0, .int .u8 0, .int .u8 0, .int .u8 0, .int .u8 0, .int .u8 0, .int .u8 0, .int .u8 0, .int .u8 0, .int .u8 0, .int .u8 0, .int .u8 0, .int .u8 0, .int .u8 0, .int .u8 0, .int .u8 0, .int .u8 0, .int .u8 0, .int .u8 0, .int .u8 0, .int .u8 0, .int .u8 0, .int .u8 0, .int .u8 0, .int .u8 0] 27) = V4 at *
            replace b11 := b11.to hb
            replace fb := fb.trans (hb.mono (by have := fb.size; have := HB0.out; omega))
            clear hb
            refine wpP_one ?_
            refine wpP_loud rfl (by rfl) ?_
            intro K hK
            refine wp_store_fld _ _ _ rfl p10 0 _ _ (B8 x0) rfl _ rfl rfl b10 (by rw [B8_len, HLA.out]; decide) (info_hash HLA.out) (B8_one _) ?_
            intro V5 bn u
            rw [put_all _ _ (by rw [B8_len, HLA.out]; rfl)] at bn
            refine hK.out _ _ (below_but u HP10.out (by have := fb.size; have := HB0.out; omega)) ?_
            clear hK K
            try simp only [Act.put, List.setIfInBounds_toArray, List.set_cons_zero, List.set_cons_succ]
            replace b11 := b11.but u (by intro e; injection e with e; exact hne.out e.symm)
            clear b10
            have b10 := bn
            clear bn
            replace fb := fb.trans (below_but u HP10.out (by have := fb.size; have := HB0.out; omega))
            clear u
            refine wpP_one ?_
            refine wpP_loud rfl (by rfl) ?_
            intro K hK
            refine wp_store_fld _ _ _ rfl p11 0 _ _ (B8 y0) rfl _ rfl rfl b11 (by rw [B8_len, HLB.out]; decide) (info_hash HLB.out) (B8_one _) ?_
            intro V6 bn u
            rw [put_all _ _ (by rw [B8_len, HLB.out]; rfl)] at bn
            refine hK.out _ _ (below_but u HP11.out (by have := fb.size; have := HB0.out; omega)) ?_
            clear hK K
            try simp only [Act.put, List.setIfInBounds_toArray, List.set_cons_zero, List.set_cons_succ]
            replace b10 := b10.but u (by intro e; injection e with e; exact hne.out e)
            clear b11
            have b11 := bn
            clear bn
            replace fb := fb.trans (below_but u HP11.out (by have := fb.size; have := HB0.out; omega))
            clear u
            refine wpP_done ?_
            exact ⟨rfl, p10, p11, rfl, (show _ ≤ _ by rw [← HQ.out, HB0.out]; exact HP10.out), (show _ ≤ _ by rw [← HQ.out, HB0.out]; exact HP11.out), hne, b10, b11, hfd.trans (by rw [← HQ.out, HB0.out]; exact fb)⟩
          · refine wpP_loud rfl (by rfl) ?_
            intro K hK
            have hb : Below V2.heap.size V2 (V2.alloc (.cells #[.int .u8 0, .int .u8 0, .int .u8 0, .int .u8 0, .int .u8 0, .int .u8 0, .int .u8 0, .int .u8 0, .int .u8 0, .int .u8 0, .int .u8 0, .int .u8 0, .int .u8 0, .int .u8 0, .int .u8 0, .int .u8 0, .int .u8 0, .int .u8 0, .int .u8 0, .int .u8 0, .int .u8 0, .int .u8 0, .int .u8 0, .int .u8 0, .int .u8 0, .int .u8 0, .int .u8 0, .int .u8 0, .int .u8 0, .int .u8 0, .int .u8 0, .int .u8 0] 27)) := (Below.refl _ _).alloc (Nat.le_refl _) _
            have b10 : Blk (V2.alloc (.cells #[.int .u8 0, .int .u8 0, .int .u8 0, .int .u8 0, .int .u8 0, .int .u8 0, .int .u8 0, .int .u8 0, .int .u8 0, .int .u8 0, .int .u8 0, .int .u8 0, .int .u8 0, .int .u8 0, .int .u8 0, .int .u8 0, .int .u8 0, .int .u8 0, .int .u8 0, .int .u8 0, .int .u8 0, .int .u8 0, .int .u8 0, .int .u8 0, .int .u8 0, .int .u8 0, .int .u8 0, .int .u8 0, .int .u8 0, .int .u8 0, .int .u8 0, .int .u8 0] 27)) V2.heap.size 27 (B8 zero32) := Blk.new V2 #[.int .u8 0, .int .u8 0, .int .u8 0, .int .u8 0, .int .u8 0, .int .u8 0, .int .u8 0, .int .u8 0, .int .u8 0, .int .u8 0, .int .u8 0, .int .u8 0, .int .u8 0, .int .u8 0, .int .u8 0, .int .u8 0, .int .u8 0, .int .u8 0, .int .u8 0, .int .u8 0, .int .u8 0, .int .u8 0, .int .u8 0, .int .u8 0, .int .u8 0, .int .u8 0, .int .u8 0, .int .u8 0, .int .u8 0, .int .u8 0, .int .u8 0, .int .u8 0] 27
            go_simp
            refine hK.out _ _ (hb.mono (by have := fb.size; have := HB0.out; omega)) ?_
            clear hK K
            try simp only [Act.put, List.setIfInBounds_toArray, List.set_cons_zero, List.set_cons_succ]
            obtain ⟨p10, hp10⟩ : ∃ p, p = V2.heap.size := ⟨_, rfl⟩
            have HP10 : Hid (B0 ≤ p10) := (show _ ≤ _ by rw [hp10]; have := fb.size; have := HB0.out; omega)
            have hne : Hid (p10 ≠ p11) := (show _ ≠ _ by have := b11.lt; omega)
            rw [← hp10] at b10 ⊢
            clear hp10
            generalize V2.alloc (.cells #[.int .u8 0, .int .u8 0, .int .u8 0, .int .u8 0, .int .u8 0, .int .u8 0, .int .u8 0, .int .u8 0, .int .u8 0, .int .u8 0, .int .u8 0, .int .u8 0, .int .u8 0, .int .u8 0, .int .u8 0, .int .u8 0, .int .u8 0, .int .u8 0, .int .u8 0, .int .u8 0, .int .u8 0, .int .u8 0, .int .u8 0, .int .u8 0, .int .u8 0, .int .u8 0, .int .u8 0, .int .u8 0, .int .u8 0, .int .u8 0, .int .u8 0, .int .u8 0] 27) = V3 at *
            replace b11 := b11.to hb
            replace fb := fb.trans (hb.mono (by have := fb.size; have := HB0.out; omega))
            clear hb
            refine wpP_one ?_
            refine wpP_loud rfl (by rfl) ?_
            intro K hK
            go_simp
            refine (leaf_any (Acc.mk (j : Int) (1 + m + 1) 0 0) HBW.out V3).mono ?_
            rintro e V4 ⟨rfl, hb⟩
            rw [HY0.out]
            unfold hv
            refine hK.out _ _ (hb.mono (by have := fb.size; have := HB0.out; omega)) ?_
            clear hK K
            try simp only [Act.put, List.setIfInBounds_toArray, List.set_cons_zero, List.set_cons_succ]
            replace b10 := b10.to hb
            replace b11 := b11.to hb
            replace fb := fb.trans (hb.mono (by have := fb.size; have := HB0.out; omega))
            clear hb
            refine wpP_one ?_
            refine wpP_loud rfl (by rfl) ?_
            intro K hK
            refine wp_store_fld _ _ _ rfl p10 0 _ _ (B8 x0) rfl _ rfl rfl b10 (by rw [B8_len, HLA.out]; decide) (info_hash HLA.out) (B8_one _) ?_
            intro V5 bn u
            rw [put_all _ _ (by rw [B8_len, HLA.out]; rfl)] at bn
            refine hK.out _ _ (below_but u HP10.out (by have := fb.size; have := HB0.out; omega)) ?_
            clear hK K
            try simp only [Act.put, List.setIfInBounds_toArray, List.set_cons_zero, List.set_cons_succ]
            replace b11 := b11.but u (by intro e; injection e with e; exact hne.out e.symm)
            clear b10
            have b10 := bn
            clear bn
            replace fb := fb.trans (below_but u HP10.out (by have := fb.size; have := HB0.out; omega))
            clear u
            refine wpP_one ?_
            refine wpP_loud rfl (by rfl) ?_
            intro K hK
            refine wp_store_fld _ _ _ rfl p11 0 _ _ (B8 y0) rfl _ rfl rfl b11 (by rw [B8_len, HLB.out]; decide) (info_hash HLB.out) (B8_one _) ?_
            intro V6 bn u
            rw [put_all _ _ (by rw [B8_len, HLB.out]; rfl)] at bn
            refine hK.out _ _ (below_but u HP11.out (by have := fb.size; have := HB0.out; omega)) ?_
            clear hK K
            try simp only [Act.put, List.setIfInBounds_toArray, List.set_cons_zero, List.set_cons_succ]
            replace b10 := b10.but u (by intro e; injection e with e; exact hne.out e)
            clear b11
            have b11 := bn
            clear bn
            replace fb := fb.trans (below_but u HP11.out (by have := fb.size; have := HB0.out; omega))
            clear u
            refine wpP_done ?_
            exact ⟨rfl, p10, p11, rfl, (show _ ≤ _ by rw [← HQ.out, HB0.out]; exact HP10.out), (show _ ≤ _ by rw [← HQ.out, HB0.out]; exact HP11.out), hne, b10, b11, hfd.trans (by rw [← HQ.out, HB0.out]; exact fb)⟩
      · refine wpP_loud rfl (by rfl) ?_
        intro K hK
        have hb : Below V0.heap.size V0 (V0.alloc (.cells #[.int .u8 0, .int .u8 0, .int .u8 0, .int .u8 0, .int .u8 0, .int .u8 0, .int .u8 0, .int .u8 0, .int .u8 0, .int .u8 0, .int .u8 0, .int .u8 0, .int .u8 0, .int .u8 0, .int .u8 0, .int .u8 0, .int .u8 0, .int .u8 0, .int .u8 0, .int .u8 0, .int .u8 0, .int .u8 0, .int .u8 0, .int .u8 0, .int .u8 0, .int .u8 0, .int .u8 0, .int .u8 0, .int .u8 0, .int .u8 0, .int .u8 0, .int .u8 0] 27)) := (Below.refl _ _).alloc (Nat.le_refl _) _
        have b10 : Blk (V0.alloc (.cells #[.int .u8 0, .int .u8 0, .int .u8 0, .int .u8 0, .int .u8 0, .int .u8 0, .int .u8 0, .int .u8 0, .int .u8 0, .int .u8 0, .int .u8 0, .int .u8 0, .int .u8 0, .int .u8 0, .int .u8 0, .int .u8 0, .int .u8 0, .int .u8 0, .int .u8 0, .int .u8 0, .int .u8 0, .int .u8 0, .int .u8 0, .int .u8 0, .int .u8 0, .int .u8 0, .int .u8 0, .int .u8 0, .int .u8 0, .int .u8 0, .int .u8 0, .int .u8 0] 27)) V0.heap.size 27 (B8 zero32) := Blk.new V0 #[.int .u8 0, .int .u8 0, .int .u8 0, .int .u8 0, .int .u8 0, .int .u8 0, .int .u8 0, .int .u8 0, .int .u8 0, .int .u8 0, .int .u8 0, .int .u8 0, .int .u8 0, .int .u8 0, .int .u8 0, .int .u8 0, .int .u8 0, .int .u8 0, .int .u8 0, .int .u8 0, .int .u8 0, .int .u8 0, .int .u8 0, .int .u8 0, .int .u8 0, .int .u8 0, .int .u8 0, .int .u8 0, .int .u8 0, .int .u8 0, .int .u8 0, .int .u8 0] 27
        go_simp
        refine hK.out _ _ (hb.mono (by have := fb.size; have := HB0.out; omega)) ?_
        clear hK K
        try simp only [Act.put, List.setIfInBounds_toArray, List.set_cons_zero, List.set_cons_succ]
        obtain ⟨p10, hp10⟩ : ∃ p, p = V0.heap.size := ⟨_, rfl⟩
        have HP10 : Hid (B0 ≤ p10) := (show _ ≤ _ by rw [hp10]; have := fb.size; have := HB0.out; omega)
        rw [← hp10] at b10 ⊢
        clear hp10
        generalize V0.alloc (.cells #[.int .u8 0, .int .u8 0, .int .u8 0, .int .u8 0, .int .u8 0, .int .u8 0, .int .u8 0, .int .u8 0, .int .u8 0, .int .u8 0, .int .u8 0, .int .u8 0, .int .u8 0, .int .u8 0, .int .u8 0, .int .u8 0, .int .u8 0, .int .u8 0, .int .u8 0, .int .u8 0, .int .u8 0, .int .u8 0, .int .u8 0, .int .u8 0, .int .u8 0, .int .u8 0, .int .u8 0, .int .u8 0, .int .u8 0, .int .u8 0, .int .u8 0, .int .u8 0] 27) = V1 at *
        replace fb := fb.trans (hb.mono (by have := fb.size; have := HB0.out; omega))
        clear hb
        refine wpP_two ?_ ?_
        · refine wpP_loud rfl (by rfl) ?_
          intro K hK
          go_simp
          refine (leaf_any (Acc.mk (i : Int) (1 + m) 0 0) HAW.out V1).mono ?_
          rintro e V2 ⟨rfl, hb⟩
          rw [HX0.out]
          unfold hv
          refine hK.out _ _ (hb.mono (by have := fb.size; have := HB0.out; omega)) ?_
          clear hK K
          try simp only [Act.put, List.setIfInBounds_toArray, List.set_cons_zero, List.set_cons_succ]
          replace b10 := b10.to hb
          replace fb := fb.trans (hb.mono (by have := fb.size; have := HB0.out; omega))
          clear hb
          refine wpP_two ?_ ?_
          · refine wpP_loud rfl (by rfl) ?_
            intro K hK
            go_simp
            refine (leaf_any (Acc.mk (j : Int) (1 + m + 1) 0 0) HBW.out V2).mono ?_
            rintro e V3 ⟨rfl, hb⟩
            rw [HY0.out]
            unfold hv
            refine hK.out _ _ (hb.mono (by have := fb.size; have := HB0.out; omega)) ?_
            clear hK K
            try simp only [Act.put, List.setIfInBounds_toArray, List.set_cons_zero, List.set_cons_succ]
            replace b10 := b10.to hb
            replace fb := fb.trans (hb.mono (by have := fb.size; have := HB0.out; omega))
            clear hb
            refine wpP_one ?_
            refine wpP_loud rfl (by rfl) ?_
            intro K hK
            have hb : Below V3.heap.size V3 (V3.alloc (.cells #[.int .u8 0, .int .u8 0, .int .u8 0, .int .u8 0, .int .u8 0, .int .u8 0, .int .u8 0, .int .u8 0, .int .u8 0, .int .u8 0, .int .u8 0, .int .u8 0, .int .u8 0, .int .u8 0, .int .u8 0, .int .u8 0, .int .u8 0, .int .u8 0, .int .u8 0, .int .u8 0, .int .u8 0, .int .u8 0, .int .u8 0, .int .u8 0, .int .u8 0, .int .u8 0, .int .u8 0, .int .u8 0, .int .u8 0, .int .u8 0, .int .u8 0, .int .u8 0] 27)) := (Below.refl _ _).alloc (Nat.le_refl _) _
            have b11 : Blk (V3.alloc (.cells #[.int .u8 0, .int .u8 0, .int .u8 0, .int .u8 0, .int .u8 0, .int .u8 0, .int .u8 0, .int .u8 0, .int .u8 0, .int .u8 0, .int .u8 0, .int .u8 0, .int .u8 0, .int .u8 0, .int .u8 0, .int .u8 0, .int .u8 0, .int .u8 0, .int .u8 0, .int .u8 0, .int .u8 0, .int .u8 0, .int .u8 0, .int .u8 0, .int .u8 0, .int .u8 0, .int .u8 0, .int .u8 0, .int .u8 0, .int .u8 0, .int .u8 0, .int .u8 0] 27)) V3.heap.size 27 (B8 zero32) := Blk.new V3 #[.int .u8 0, .int .u8 0, .int .u8 0, .int .u8 0, .int .u8 0, .int .u8 0, .int .u8 0, .int .u8 0, .int .u8 0, .int .u8 0, .int .u8 0, .int .u8 0, .int .u8 0, .int .u8 0, .int .u8 0, .int .u8 0, .int .u8 0, .int .u8 0, .int .u8 0, .int .u8 0, .int .u8 0, .int .u8 0, .int .u8 0, .int .u8 0, .int .u8 0, .int .u8 0, .int .u8 0, .int .u8 0, .int .u8 0, .int .u8 0, .int .u8 0, .int .u8 0] 27
            go_simp
            refine hK.out _ _ (hb.mono (by have := fb.size; have := HB0.out; omega)) ?_
            clear hK K
            try simp only [Act.put, List.setIfInBounds_toArray, List.set_cons_zero, List.set_cons_succ]
            obtain ⟨p11, hp11⟩ : ∃ p, p = V3.heap.size := ⟨_, rfl⟩
            have HP11 : Hid (B0 ≤ p11) := (show _ ≤ _ by rw [hp11]; have := fb.size; have := HB0.out; omega)
            have hne : Hid (p10 ≠ p11) := (show _ ≠ _ by have := b10.lt; omega)
            rw [← hp11] at b11 ⊢
            clear hp11
            generalize V3.alloc (.cells #[.int .u8 0, .int .u8 0, .int .u8 0, .int .u8 0, .int .u8 0, .int .u8 0, .int .u8 0, .int .u8 0, .int .u8 0, .int .u8 0, .int .u8 0, .int .u8 0, .int .u8 0, .int .u8 0, .int .u8 0, .int .u8 0, .int .u8 0, .int .u8 0, .int .u8 0, .int .u8 0, .int .u8 0, .int .u8 0, .int .u8 0, .int .u8 0, .int .u8 0, .int .u8 0, .int .u8 0, .int .u8 0, .int .u8 0, .int .u8 0, .int .u8 0, .int .u8 0] 27) = V4 at *
            replace b10 := b10.to hb
            replace fb := fb.trans (hb.mono (by have := fb.size; have := HB0.out; omega))
            clear hb
            refine wpP_one ?_
            refine wpP_loud rfl (by rfl) ?_
            intro K hK
            refine wp_store_fld _ _ _ rfl p10 0 _ _ (B8 x0) rfl _ rfl rfl b10 (by rw [B8_len, HLA.out]; decide) (info_hash HLA.out) (B8_one _) ?_
            intro V5 bn u
            rw [put_all _ _ (by rw [B8_len, HLA.out]; rfl)] at bn
            refine hK.out _ _ (below_but u HP10.out (by have := fb.size; have := HB0.out; omega)) ?_
            clear hK K
            try simp only [Act.put, List.setIfInBounds_toArray, List.set_cons_zero, List.set_cons_succ]
            replace b11 := b11.but u (by intro e; injection e with e; exact hne.out e.symm)
            clear b10
            have b10 := bn
            clear bn
            replace fb := fb.trans (below_but u HP10.out (by have := fb.size; have := HB0.out; omega))
            clear u
            refine wpP_one ?_
            refine wpP_loud rfl (by rfl) ?_
            intro K hK
            refine wp_store_fld _ _ _ rfl p11 0 _ _ (B8 y0) rfl _ rfl rfl b11 (by rw [B8_len, HLB.out]; decide) (info_hash HLB.out) (B8_one _) ?_
            intro V6 bn u
            rw [put_all _ _ (by rw [B8_len, HLB.out]; rfl)] at bn
            refine hK.out _ _ (below_but u HP11.out (by have := fb.size; have := HB0.out; omega)) ?_
            clear hK K
            try simp only [Act.put, List.setIfInBounds_toArray, List.set_cons_zero, List.set_cons_succ]
            replace b10 := b10.but u (by intro e; injection e with e; exact hne.out e)
            clear b11
            have b11 := bn
            clear bn
            replace fb := fb.trans (below_but u HP11.out (by have := fb.size; have := HB0.out; omega))
            clear u
            refine wpP_done ?_
            exact ⟨rfl, p10, p11, rfl, (show _ ≤ _ by rw [← HQ.out, HB0.out]; exact HP10.out), (show _ ≤ _ by rw [← HQ.out, HB0.out]; exact HP11.out), hne, b10, b11, hfd.trans (by rw [← HQ.out, HB0.out]; exact fb)⟩
          · refine wpP_loud rfl (by rfl) ?_
            intro K hK
            have hb : Below V2.heap.size V2 (V2.alloc (.cells #[.int .u8 0, .int .u8 0, .int .u8 0, .int .u8 0, .int .u8 0, .int .u8 0, .int .u8 0, .int .u8 0, .int .u8 0, .int .u8 0, .int .u8 0, .int .u8 0, .int .u8 0, .int .u8 0, .int .u8 0, .int .u8 0, .int .u8 0, .int .u8 0, .int .u8 0, .int .u8 0, .int .u8 0, .int .u8 0, .int .u8 0, .int .u8 0, .int .u8 0, .int .u8 0, .int .u8 0, .int .u8 0, .int .u8 0, .int .u8 0, .int .u8 0, .int .u8 0] 27)) := (Below.refl _ _).alloc (Nat.le_refl _) _
            have b11 : Blk (V2.alloc (.cells #[.int .u8 0, .int .u8 0, .int .u8 0, .int .u8 0, .int .u8 0, .int .u8 0, .int .u8 0, .int .u8 0, .int .u8 0, .int .u8 0, .int .u8 0, .int .u8 0, .int .u8 0, .int .u8 0, .int .u8 0, .int .u8 0, .int .u8 0, .int .u8 0, .int .u8 0, .int .u8 0, .int .u8 0, .int .u8 0, .int .u8 0, .int .u8 0, .int .u8 0, .int .u8 0, .int .u8 0, .int .u8 0, .int .u8 0, .int .u8 0, .int .u8 0, .int .u8 0] 27)) V2.heap.size 27 (B8 zero32) := Blk.new V2 #[.int .u8 0, .int .u8 0, .int .u8 0, .int .u8 0, .int .u8 0, .int .u8 0, .int .u8 0, .int .u8 0, .int .u8 0, .int .u8 0, .int .u8 0, .int .u8 0, .int .u8 0, .int .u8 0, .int .u8 0, .int .u8 0, .int .u8 0, .int .u8 0, .int .u8 0, .int .u8 0, .int .u8 0, .int .u8 0, .int .u8 0, .int .u8 0, .int .u8 0, .int .u8 0, .int .u8 0, .int .u8 0, .int .u8 0, .int .u8 0, .int .u8 0, .int .u8 0] 27
            go_simp
            refine hK.out _ _ (hb.mono (by have := fb.size; have := HB0.out; omega)) ?_
            clear hK K
            try simp only [Act.put, List.setIfInBounds_toArray, List.set_cons_zero, List.set_cons_succ]
            obtain ⟨p11, hp11⟩ : ∃ p, p = V2.heap.size := ⟨_, rfl⟩
            have HP11 : Hid (B0 ≤ p11) := (show _ ≤ _ by rw [hp11]; have := fb.size; have := HB0.out; omega)
            have hne : Hid (p10 ≠ p11) := (show _ ≠ _ by have := b10.lt; omega)
            rw [← hp11] at b11 ⊢
            clear hp11
            generalize V2.alloc (.cells #[.int .u8 0, .int .u8 0, .int .u8 0, .int .u8 0, .int .u8 0, .int .u8 0, .int .u8 0, .int .u8 0, .int .u8 0, .int .u8 0, .int .u8 0, .int .u8 0, .int .u8 0, .int .u8 0, .int .u8 0, .int .u8 0, .int .u8 0, .int .u8 0, .int .u8 0, .int .u8 0, .int .u8 0, .int .u8 0, .int .u8 0, .int .u8 0, .int .u8 0, .int .u8 0, .int .u8 0, .int .u8 0, .int .u8 0, .int .u8 0, .int .u8 0, .int .u8 0] 27) = V3 at *
            replace b10 := b10.to hb
            replace fb := fb.trans (hb.mono (by have := fb.size; have := HB0.out; omega))
            clear hb
            refine wpP_one ?_
            refine wpP_loud rfl (by rfl) ?_
            intro K hK
            go_simp
            refine (leaf_any (Acc.mk (j : Int) (1 + m + 1) 0 0) HBW.out V3).mono ?_
            rintro e V4 ⟨rfl, hb⟩
            rw [HY0.out]
            unfold hv
            refine hK.out _ _ (hb.mono (by have := fb.size; have := HB0.out; omega)) ?_
            clear hK K
            try simp only [Act.put, List.setIfInBounds_toArray, List.set_cons_zero, List.set_cons_succ]
            replace b10 := b10.to hb
            replace b11 := b11.to hb
            replace fb := fb.trans (hb.mono (by have := fb.size; have := HB0.out; omega))
            clear hb
            refine wpP_one ?_
            refine wpP_loud rfl (by rfl) ?_
            intro K hK
            refine wp_store_fld _ _ _ rfl p10 0 _ _ (B8 x0) rfl _ rfl rfl b10 (by rw [B8_len, HLA.out]; decide) (info_hash HLA.out) (B8_one _) ?_
            intro V5 bn u
            rw [put_all _ _ (by rw [B8_len, HLA.out]; rfl)] at bn
            refine hK.out _ _ (below_but u HP10.out (by have := fb.size; have := HB0.out; omega)) ?_
            clear hK K
            try simp only [Act.put, List.setIfInBounds_toArray, List.set_cons_zero, List.set_cons_succ]
            replace b11 := b11.but u (by intro e; injection e with e; exact hne.out e.symm)
            clear b10
            have b10 := bn
            clear bn
            replace fb := fb.trans (below_but u HP10.out (by have := fb.size; have := HB0.out; omega))
            clear u
            refine wpP_one ?_
            refine wpP_loud rfl (by rfl) ?_
            intro K hK
            refine wp_store_fld _ _ _ rfl p11 0 _ _ (B8 y0) rfl _ rfl rfl b11 (by rw [B8_len, HLB.out]; decide) (info_hash HLB.out) (B8_one _) ?_
            intro V6 bn u
            rw [put_all _ _ (by rw [B8_len, HLB.out]; rfl)] at bn
            refine hK.out _ _ (below_but u HP11.out (by have := fb.size; have := HB0.out; omega)) ?_
            clear hK K
            try simp only [Act.put, List.setIfInBounds_toArray, List.set_cons_zero, List.set_cons_succ]
            replace b10 := b10.but u (by intro e; injection e with e; exact hne.out e)
            clear b11
            have b11 := bn
            clear bn
            replace fb := fb.trans (below_but u HP11.out (by have := fb.size; have := HB0.out; omega))
            clear u
            refine wpP_done ?_
            exact ⟨rfl, p10, p11, rfl, (show _ ≤ _ by rw [← HQ.out, HB0.out]; exact HP10.out), (show _ ≤ _ by rw [← HQ.out, HB0.out]; exact HP11.out), hne, b10, b11, hfd.trans (by rw [← HQ.out, HB0.out]; exact fb)⟩
        · refine wpP_loud rfl (by rfl) ?_
          intro K hK
          have hb : Below V1.heap.size V1 (V1.alloc (.cells #[.int .u8 0, .int .u8 0, .int .u8 0, .int .u8 0, .int .u8 0, .int .u8 0, .int .u8 0, .int .u8 0, .int .u8 0, .int .u8 0, .int .u8 0, .int .u8 0, .int .u8 0, .int .u8 0, .int .u8 0, .int .u8 0, .int .u8 0, .int .u8 0, .int .u8 0, .int .u8 0, .int .u8 0, .int .u8 0, .int .u8 0, .int .u8 0, .int .u8 0, .int .u8 0, .int .u8 0, .int .u8 0, .int .u8 0, .int .u8 0, .int .u8 0, .int .u8 0] 27)) := (Below.refl _ _).alloc (Nat.le_refl _) _
          have b11 : Blk (V1.alloc (.cells #[.int .u8 0, .int .u8 0, .int .u8 0, .int .u8 0, .int .u8 0, .int .u8 0, .int .u8 0, .int .u8 0, .int .u8 0, .int .u8 0, .int .u8 0, .int .u8 0, .int .u8 0, .int .u8 0, .int .u8 0, .int .u8 0, .int .u8 0, .int .u8 0, .int .u8 0, .int .u8 0, .int .u8 0, .int .u8 0, .int .u8 0, .int .u8 0, .int .u8 0, .int .u8 0, .int .u8 0, .int .u8 0, .int .u8 0, .int .u8 0, .int .u8 0, .int .u8 0] 27)) V1.heap.size 27 (B8 zero32) := Blk.new V1 #[.int .u8 0, .int .u8 0, .int .u8 0, .int .u8 0, .int .u8 0, .int .u8 0, .int .u8 0, .int .u8 0, .int .u8 0, .int .u8 0, .int .u8 0, .int .u8 0, .int .u8 0, .int .u8 0, .int .u8 0, .int .u8 0, .int .u8 0, .int .u8 0, .int .u8 0, .int .u8 0, .int .u8 0, .int .u8 0, .int .u8 0, .int .u8 0, .int .u8 0, .int .u8 0, .int .u8 0, .int .u8 0, .int .u8 0, .int .u8 0, .int .u8 0, .int .u8 0] 27
          go_simp
          refine hK.out _ _ (hb.mono (by have := fb.size; have := HB0.out; omega)) ?_
          clear hK K
          try simp only [Act.put, List.setIfInBounds_toArray, List.set_cons_zero, List.set_cons_succ]
          obtain ⟨p11, hp11⟩ : ∃ p, p = V1.heap.size := ⟨_, rfl⟩
          have HP11 : Hid (B0 ≤ p11) := (show _ ≤ _ by rw [hp11]; have := fb.size; have := HB0.out; omega)
          have hne : Hid (p10 ≠ p11) := (show _ ≠ _ by have := b10.lt; omega)
          rw [← hp11] at b11 ⊢
          clear hp11
          generalize V1.alloc (.cells #[.int .u8 0, .int .u8 0, .int .u8 0, .int .u8 0, .int .u8 0, .int .u8 0, .int .u8 0, .int .u8 0, .int .u8 0, .int .u8 0, .int .u8 0, .int .u8 0, .int .u8 0, .int .u8 0, .int .u8 0, .int .u8 0, .int .u8 0, .int .u8 0, .int .u8 0, .int .u8 0, .int .u8 0, .int .u8 0, .int .u8 0, .int .u8 0, .int .u8 0, .int .u8 0, .int .u8 0, .int .u8 0, .int .u8 0, .int .u8 0, .int .u8 0, .int .u8 0] 27) = V2 at *
          replace b10 := b10.to hb
          replace fb := fb.trans (hb.mono (by have := fb.size; have := HB0.out; omega))
          clear hb
          refine wpP_one ?_
          refine wpP_loud rfl (by rfl) ?_
          intro K hK
          go_simp
          refine (leaf_any (Acc.mk (i : Int) (1 + m) 0 0) HAW.out V2).mono ?_
          rintro e V3 ⟨rfl, hb⟩
          rw [HX0.out]
          unfold hv
          refine hK.out _ _ (hb.mono (by have := fb.size; have := HB0.out; omega)) ?_
          clear hK K
          try simp only [Act.put, List.setIfInBounds_toArray, List.set_cons_zero, List.set_cons_succ]
          replace b10 := b10.to hb
          replace b11 := b11.to hb
          replace fb := fb.trans (hb.mono (by have := fb.size; have := HB0.out; omega))
          clear hb
          refine wpP_one ?_
          refine wpP_loud rfl (by rfl) ?_
          intro K hK
          go_simp
          refine (leaf_any (Acc.mk (j : Int) (1 + m + 1) 0 0) HBW.out V3).mono ?_
          rintro e V4 ⟨rfl, hb⟩
          rw [HY0.out]
          unfold hv
          refine hK.out _ _ (hb.mono (by have := fb.size; have := HB0.out; omega)) ?_
          clear hK K
          try simp only [Act.put, List.setIfInBounds_toArray, List.set_cons_zero, List.set_cons_succ]
          replace b10 := b10.to hb
          replace b11 := b11.to hb
          replace fb := fb.trans (hb.mono (by have := fb.size; have := HB0.out; omega))
          clear hb
          refine wpP_one ?_
          refine wpP_loud rfl (by rfl) ?_
          intro K hK
          refine wp_store_fld _ _ _ rfl p10 0 _ _ (B8 x0) rfl _ rfl rfl b10 (by rw [B8_len, HLA.out]; decide) (info_hash HLA.out) (B8_one _) ?_
          intro V5 bn u
          rw [put_all _ _ (by rw [B8_len, HLA.out]; rfl)] at bn
          refine hK.out _ _ (below_but u HP10.out (by have := fb.size; have := HB0.out; omega)) ?_
          clear hK K
          try simp only [Act.put, List.setIfInBounds_toArray, List.set_cons_zero, List.set_cons_succ]
          replace b11 := b11.but u (by intro e; injection e with e; exact hne.out e.symm)
          clear b10
          have b10 := bn
          clear bn
          replace fb := fb.trans (below_but u HP10.out (by have := fb.size; have := HB0.out; omega))
          clear u
          refine wpP_one ?_
          refine wpP_loud rfl (by rfl) ?_
          intro K hK
          refine wp_store_fld _ _ _ rfl p11 0 _ _ (B8 y0) rfl _ rfl rfl b11 (by rw [B8_len, HLB.out]; decide) (info_hash HLB.out) (B8_one _) ?_
          intro V6 bn u
          rw [put_all _ _ (by rw [B8_len, HLB.out]; rfl)] at bn
          refine hK.out _ _ (below_but u HP11.out (by have := fb.size; have := HB0.out; omega)) ?_
          clear hK K
          try simp only [Act.put, List.setIfInBounds_toArray, List.set_cons_zero, List.set_cons_succ]
          replace b10 := b10.but u (by intro e; injection e with e; exact hne.out e)
          clear b11
          have b11 := bn
          clear bn
          replace fb := fb.trans (below_but u HP11.out (by have := fb.size; have := HB0.out; omega))
          clear u
          refine wpP_done ?_
          exact ⟨rfl, p10, p11, rfl, (show _ ≤ _ by rw [← HQ.out, HB0.out]; exact HP10.out), (show _ ≤ _ by rw [← HQ.out, HB0.out]; exact HP11.out), hne, b10, b11, hfd.trans (by rw [← HQ.out, HB0.out]; exact fb)⟩
      · refine wpP_loud rfl (by rfl) ?_
        intro K hK
        have hb : Below V0.heap.size V0 (V0.alloc (.cells #[.int .u8 0, .int .u8 0, .int .u8 0, .int .u8 0, .int .u8 0, .int .u8 0, .int .u8 0, .int .u8 0, .int .u8 0, .int .u8 0, .int .u8 0, .int .u8 0, .int .u8 0, .int .u8 0, .int .u8 0, .int .u8 0, .int .u8 0, .int .u8 0, .int .u8 0, .int .u8 0, .int .u8 0, .int .u8 0, .int .u8 0, .int .u8 0, .int .u8 0, .int .u8 0, .int .u8 0, .int .u8 0, .int .u8 0, .int .u8 0, .int .u8 0, .int .u8 0] 27)) := (Below.refl _ _).alloc (Nat.le_refl _) _
        have b11 : Blk (V0.alloc (.cells #[.int .u8 0, .int .u8 0, .int .u8 0, .int .u8 0, .int .u8 0, .int .u8 0, .int .u8 0, .int .u8 0, .int .u8 0, .int .u8 0, .int .u8 0, .int .u8 0, .int .u8 0, .int .u8 0, .int .u8 0, .int .u8 0, .int .u8 0, .int .u8 0, .int .u8 0, .int .u8 0, .int .u8 0, .int .u8 0, .int .u8 0, .int .u8 0, .int .u8 0, .int .u8 0, .int .u8 0, .int .u8 0, .int .u8 0, .int .u8 0, .int .u8 0, .int .u8 0] 27)) V0.heap.size 27 (B8 zero32) := Blk.new V0 #[.int .u8 0, .int .u8 0, .int .u8 0, .int .u8 0, .int .u8 0, .int .u8 0, .int .u8 0, .int .u8 0, .int .u8 0, .int .u8 0, .int .u8 0, .int .u8 0, .int .u8 0, .int .u8 0, .int .u8 0, .int .u8 0, .int .u8 0, .int .u8 0, .int .u8 0, .int .u8 0, .int .u8 0, .int .u8 0, .int .u8 0, .int .u8 0, .int .u8 0, .int .u8 0, .int .u8 0, .int .u8 0, .int .u8 0, .int .u8 0, .int .u8 0, .int .u8 0] 27
        go_simp
        refine hK.out _ _ (hb.mono (by have := fb.size; have := HB0.out; omega)) ?_
        clear hK K
        try simp only [Act.put, List.setIfInBounds_toArray, List.set_cons_zero, List.set_cons_succ]
        obtain ⟨p11, hp11⟩ : ∃ p, p = V0.heap.size := ⟨_, rfl⟩
        have HP11 : Hid (B0 ≤ p11) := (show _ ≤ _ by rw [hp11]; have := fb.size; have := HB0.out; omega)
        rw [← hp11] at b11 ⊢
        clear hp11
        generalize V0.alloc (.cells #[.int .u8 0, .int .u8 0, .int .u8 0, .int .u8 0, .int .u8 0, .int .u8 0, .int .u8 0, .int .u8 0, .int .u8 0, .int .u8 0, .int .u8 0, .int .u8 0, .int .u8 0, .int .u8 0, .int .u8 0, .int .u8 0, .int .u8 0, .int .u8 0, .int .u8 0, .int .u8 0, .int .u8 0, .int .u8 0, .int .u8 0, .int .u8 0, .int .u8 0, .int .u8 0, .int .u8 0, .int .u8 0, .int .u8 0, .int .u8 0, .int .u8 0, .int .u8 0] 27) = V1 at *
        replace fb := fb.trans (hb.mono (by have := fb.size; have := HB0.out; omega))
        clear hb
        refine wpP_two ?_ ?_
        · refine wpP_loud rfl (by rfl) ?_
          intro K hK
          go_simp
          refine (leaf_any (Acc.mk (i : Int) (1 + m) 0 0) HAW.out V1).mono ?_
          rintro e V2 ⟨rfl, hb⟩
          rw [HX0.out]
          unfold hv
          refine hK.out _ _ (hb.mono (by have := fb.size; have := HB0.out; omega)) ?_
          clear hK K
          try simp only [Act.put, List.setIfInBounds_toArray, List.set_cons_zero, List.set_cons_succ]
          replace b11 := b11.to hb
          replace fb := fb.trans (hb.mono (by have := fb.size; have := HB0.out; omega))
          clear hb
          refine wpP_two ?_ ?_
          · refine wpP_loud rfl (by rfl) ?_
            intro K hK
            go_simp
            refine (leaf_any (Acc.mk (j : Int) (1 + m + 1) 0 0) HBW.out V2).mono ?_
            rintro e V3 ⟨rfl, hb⟩
            rw [HY0.out]
            unfold hv
            refine hK.out _ _ (hb.mono (by have := fb.size; have := HB0.out; omega)) ?_
            clear hK K
            try simp only [Act.put, List.setIfInBounds_toArray, List.set_cons_zero, List.set_cons_succ]
            replace b11 := b11.to hb
            replace fb := fb.trans (hb.mono (by have := fb.size; have := HB0.out; omega))
            clear hb
            refine wpP_one ?_
            refine wpP_loud rfl (by rfl) ?_
            intro K hK
            have hb : Below V3.heap.size V3 (V3.alloc (.cells #[.int .u8 0, .int .u8 0, .int .u8 0, .int .u8 0, .int .u8 0, .int .u8 0, .int .u8 0, .int .u8 0, .int .u8 0, .int .u8 0, .int .u8 0, .int .u8 0, .int .u8 0, .int .u8 0, .int .u8 0, .int .u8 0, .int .u8 0, .int .u8 0, .int .u8 0, .int .u8 0, .int .u8 0, .int .u8 0, .int .u8 0, .int .u8 0, .int .u8 0, .int .u8 0, .int .u8 0, .int .u8 0, .int .u8 0, .int .u8 0, .int .u8 0, .int .u8 0] 27)) := (Below.refl _ _).alloc (Nat.le_refl _) _
            have b10 : Blk (V3.alloc (.cells #[.int .u8 0, .int .u8 0, .int .u8 0, .int .u8 0, .int .u8 0, .int .u8 0, .int .u8 0, .int .u8 0, .int .u8 0, .int .u8 0, .int .u8 0, .int .u8 0, .int .u8 0, .int .u8 0, .int .u8 0, .int .u8 0, .int .u8 0, .int .u8 0, .int .u8 0, .int .u8 0, .int .u8 0, .int .u8 0, .int .u8 0, .int .u8 0, .int .u8 0, .int .u8 0, .int .u8 0, .int .u8 0, .int .u8 0, .int .u8 0, .int .u8 0, .int .u8 0] 27)) V3.heap.size 27 (B8 zero32) := Blk.new V3 #[.int .u8 0, .int .u8 0, .int .u8 0, .int .u8 0, .int .u8 0, .int .u8 0, .int .u8 0, .int .u8 0, .int .u8 0, .int .u8 0, .int .u8 0, .int .u8 0, .int .u8 0, .int .u8 0, .int .u8 0, .int .u8 0, .int .u8 0, .int .u8 0, .int .u8 0, .int .u8 0, .int .u8 0, .int .u8 0, .int .u8 0, .int .u8 0, .int .u8 0, .int .u8 0, .int .u8 0, .int .u8 0, .int .u8 0, .int .u8 0, .int .u8 0, .int .u8 0] 27
            go_simp
            refine hK.out _ _ (hb.mono (by have := fb.size; have := HB0.out; omega)) ?_
            clear hK K
            try simp only [Act.put, List.setIfInBounds_toArray, List.set_cons_zero, List.set_cons_succ]
            obtain ⟨p10, hp10⟩ : ∃ p, p = V3.heap.size := ⟨_, rfl⟩
            have HP10 : Hid (B0 ≤ p10) := (show _ ≤ _ by rw [hp10]; have := fb.size; have := HB0.out; omega)
            have hne : Hid (p10 ≠ p11) := (show _ ≠ _ by have := b11.lt; omega)
            rw [← hp10] at b10 ⊢
            clear hp10
            generalize V3.alloc (.cells #[.int .u8 0, .int .u8 0, .int .u8 0, .int .u8 0, .int .u8 0, .int .u8 0, .int .u8 0, .int .u8 0, .int .u8 0, .int .u8 0, .int .u8 0, .int .u8 0, .int .u8 0, .int .u8 0, .int .u8 0, .int .u8 0, .int .u8 0, .int .u8 0, .int .u8 0, .int .u8 0, .int .u8 0, .int .u8 0, .int .u8 0, .int .u8 0, .int .u8 0, .int .u8 0, .int .u8 0, .int .u8 0, .int .u8 0, .int .u8 0, .int .u8 0, .int .u8 0] 27) = V4 at *
            replace b11 := b11.to hb
            replace fb := fb.trans (hb.mono (by have := fb.size; have := HB0.out; omega))
            clear hb
            refine wpP_one ?_
            refine wpP_loud rfl (by rfl) ?_
            intro K hK
            refine wp_store_fld _ _ _ rfl p10 0 _ _ (B8 x0) rfl _ rfl rfl b10 (by rw [B8_len, HLA.out]; decide) (info_hash HLA.out) (B8_one _) ?_
            intro V5 bn u
            rw [put_all _ _ (by rw [B8_len, HLA.out]; rfl)] at bn
            refine hK.out _ _ (below_but u HP10.out (by have := fb.size; have := HB0.out; omega)) ?_
            clear hK K
            try simp only [Act.put, List.setIfInBounds_toArray, List.set_cons_zero, List.set_cons_succ]
            replace b11 := b11.but u (by intro e; injection e with e; exact hne.out e.symm)
            clear b10
            have b10 := bn
            clear bn
            replace fb := fb.trans (below_but u HP10.out (by have := fb.size; have := HB0.out; omega))
            clear u
            refine wpP_one ?_
            refine wpP_loud rfl (by rfl) ?_
            intro K hK
            refine wp_store_fld _ _ _ rfl p11 0 _ _ (B8 y0) rfl _ rfl rfl b11 (by rw [B8_len, HLB.out]; decide) (info_hash HLB.out) (B8_one _) ?_
            intro V6 bn u
            rw [put_all _ _ (by rw [B8_len, HLB.out]; rfl)] at bn
            refine hK.out _ _ (below_but u HP11.out (by have := fb.size; have := HB0.out; omega)) ?_
            clear hK K
            try simp only [Act.put, List.setIfInBounds_toArray, List.set_cons_zero, List.set_cons_succ]
            replace b10 := b10.but u (by intro e; injection e with e; exact hne.out e)
            clear b11
            have b11 := bn
            clear bn
            replace fb := fb.trans (below_but u HP11.out (by have := fb.size; have := HB0.out; omega))
            clear u
            refine wpP_done ?_
            exact ⟨rfl, p10, p11, rfl, (show _ ≤ _ by rw [← HQ.out, HB0.out]; exact HP10.out), (show _ ≤ _ by rw [← HQ.out, HB0.out]; exact HP11.out), hne, b10, b11, hfd.trans (by rw [← HQ.out, HB0.out]; exact fb)⟩
          · refine wpP_loud rfl (by rfl) ?_
            intro K hK
            have hb : Below V2.heap.size V2 (V2.alloc (.cells #[.int .u8 0, .int .u8 0, .int .u8 0, .int .u8 0, .int .u8 0, .int .u8 0, .int .u8 0, .int .u8 0, .int .u8 0, .int .u8 0, .int .u8 0, .int .u8 0, .int .u8 0, .int .u8 0, .int .u8 0, .int .u8 0, .int .u8 0, .int .u8 0, .int .u8 0, .int .u8 0, .int .u8 0, .int .u8 0, .int .u8 0, .int .u8 0, .int .u8 0, .int .u8 0, .int .u8 0, .int .u8 0, .int .u8 0, .int .u8 0, .int .u8 0, .int .u8 0] 27)) := (Below.refl _ _).alloc (Nat.le_refl _) _
            have b10 : Blk (V2.alloc (.cells #[.int .u8 0, .int .u8 0, .int .u8 0, .int .u8 0, .int .u8 0, .int .u8 0, .int .u8 0, .int .u8 0, .int .u8 0, .int .u8 0, .int .u8 0, .int .u8 0, .int .u8 0, .int .u8 0, .int .u8 0, .int .u8 0, .int .u8 0, .int .u8 0, .int .u8 0, .int .u8 0, .int .u8 0, .int .u8 0, .int .u8 0, .int .u8 0, .int .u8 0, .int .u8 0, .int .u8 0, .int .u8 0, .int .u8 0, .int .u8 0, .int .u8 0, .int .u8 0] 27)) V2.heap.size 27 (B8 zero32) := Blk.new V2 #[.int .u8 0, .int .u8 0, .int .u8 0, .int .u8 0, .int .u8 0, .int .u8 0, .int .u8 0, .int .u8 0, .int .u8 0, .int .u8 0, .int .u8 0, .int .u8 0, .int .u8 0, .int .u8 0, .int .u8 0, .int .u8 0, .int .u8 0, .int .u8 0, .int .u8 0, .int .u8 0, .int .u8 0, .int .u8 0, .int .u8 0, .int .u8 0, .int .u8 0, .int .u8 0, .int .u8 0, .int .u8 0, .int .u8 0, .int .u8 0, .int .u8 0, .int .u8 0] 27
            go_simp
            refine hK.out _ _ (hb.mono (by have := fb.size; have := HB0.out; omega)) ?_
            clear hK K
            try simp only [Act.put, List.setIfInBounds_toArray, List.set_cons_zero, List.set_cons_succ]
            obtain ⟨p10, hp10⟩ : ∃ p, p = V2.heap.size := ⟨_, rfl⟩
            have HP10 : Hid (B0 ≤ p10) := (show _ ≤ _ by rw [hp10]; have := fb.size; have := HB0.out; omega)
            have hne : Hid (p10 ≠ p11) := (show _ ≠ _ by have := b11.lt; omega)
            rw [← hp10] at b10 ⊢
            clear hp10
            generalize V2.alloc (.cells #[.int .u8 0, .int .u8 0, .int .u8 0, .int .u8 0, .int .u8 0, .int .u8 0, .int .u8 0, .int .u8 0, .int .u8 0, .int .u8 0, .int .u8 0, .int .u8 0, .int .u8 0, .int .u8 0, .int .u8 0, .int .u8 0, .int .u8 0, .int .u8 0, .int .u8 0, .int .u8 0, .int .u8 0, .int .u8 0, .int .u8 0, .int .u8 0, .int .u8 0, .int .u8 0, .int .u8 0, .int .u8 0, .int .u8 0, .int .u8 0, .int .u8 0, .int .u8 0] 27) = V3 at *
            replace b11 := b11.to hb
            replace fb := fb.trans (hb.mono (by have := fb.size; have := HB0.out; omega))
            clear hb
            refine wpP_one ?_
            refine wpP_loud rfl (by rfl) ?_
            intro K hK
            go_simp
            refine (leaf_any (Acc.mk (j : Int) (1 + m + 1) 0 0) HBW.out V3).mono ?_
            rintro e V4 ⟨rfl, hb⟩
            rw [HY0.out]
            unfold hv
            refine hK.out _ _ (hb.mono (by have := fb.size; have := HB0.out; omega)) ?_
            clear hK K
            try simp only [Act.put, List.setIfInBounds_toArray, List.set_cons_zero, List.set_cons_succ]
            replace b10 := b10.to hb
            replace b11 := b11.to hb
            replace fb := fb.trans (hb.mono (by have := fb.size; have := HB0.out; omega))
            clear hb
            refine wpP_one ?_
            refine wpP_loud rfl (by rfl) ?_
            intro K hK
            refine wp_store_fld _ _ _ rfl p10 0 _ _ (B8 x0) rfl _ rfl rfl b10 (by rw [B8_len, HLA.out]; decide) (info_hash HLA.out) (B8_one _) ?_
            intro V5 bn u
            rw [put_all _ _ (by rw [B8_len, HLA.out]; rfl)] at bn
            refine hK.out _ _ (below_but u HP10.out (by have := fb.size; have := HB0.out; omega)) ?_
            clear hK K
            try simp only [Act.put, List.setIfInBounds_toArray, List.set_cons_zero, List.set_cons_succ]
            replace b11 := b11.but u (by intro e; injection e with e; exact hne.out e.symm)
            clear b10
            have b10 := bn
            clear bn
            replace fb := fb.trans (below_but u HP10.out (by have := fb.size; have := HB0.out; omega))
            clear u
            refine wpP_one ?_
            refine wpP_loud rfl (by rfl) ?_
            intro K hK
            refine wp_store_fld _ _ _ rfl p11 0 _ _ (B8 y0) rfl _ rfl rfl b11 (by rw [B8_len, HLB.out]; decide) (info_hash HLB.out) (B8_one _) ?_
            intro V6 bn u
            rw [put_all _ _ (by rw [B8_len, HLB.out]; rfl)] at bn
            refine hK.out _ _ (below_but u HP11.out (by have := fb.size; have := HB0.out; omega)) ?_
            clear hK K
            try simp only [Act.put, List.setIfInBounds_toArray, List.set_cons_zero, List.set_cons_succ]
            replace b10 := b10.but u (by intro e; injection e with e; exact hne.out e)
            clear b11
            have b11 := bn
            clear bn
            replace fb := fb.trans (below_but u HP11.out (by have := fb.size; have := HB0.out; omega))
            clear u
            refine wpP_done ?_
            exact ⟨rfl, p10, p11, rfl, (show _ ≤ _ by rw [← HQ.out, HB0.out]; exact HP10.out), (show _ ≤ _ by rw [← HQ.out, HB0.out]; exact HP11.out), hne, b10, b11, hfd.trans (by rw [← HQ.out, HB0.out]; exact fb)⟩
        · refine wpP_loud rfl (by rfl) ?_
          intro K hK
          have hb : Below V1.heap.size V1 (V1.alloc (.cells #[.int .u8 0, .int .u8 0, .int .u8 0, .int .u8 0, .int .u8 0, .int .u8 0, .int .u8 0, .int .u8 0, .int .u8 0, .int .u8 0, .int .u8 0, .int .u8 0, .int .u8 0, .int .u8 0, .int .u8 0, .int .u8 0, .int .u8 0, .int .u8 0, .int .u8 0, .int .u8 0, .int .u8 0, .int .u8 0, .int .u8 0, .int .u8 0, .int .u8 0, .int .u8 0, .int .u8 0, .int .u8 0, .int .u8 0, .int .u8 0, .int .u8 0, .int .u8 0] 27)) := (Below.refl _ _).alloc (Nat.le_refl _) _
          have b10 : Blk (V1.alloc (.cells #[.int .u8 0, .int .u8 0, .int .u8 0, .int .u8 0, .int .u8 0, .int .u8 0, .int .u8 0, .int .u8 0, .int .u8 0, .int .u8 0, .int .u8 0, .int .u8 0, .int .u8 0, .int .u8 0, .int .u8 0, .int .u8 0, .int .u8 0, .int .u8 0, .int .u8 0, .int .u8 0, .int .u8 0, .int .u8 0, .int .u8 0, .int .u8 0, .int .u8 0, .int .u8 0, .int .u8 0, .int .u8 0, .int .u8 0, .int .u8 0, .int .u8 0, .int .u8 0] 27)) V1.heap.size 27 (B8 zero32) := Blk.new V1 #[.int .u8 0, .int .u8 0, .int .u8 0, .int .u8 0, .int .u8 0, .int .u8 0, .int .u8 0, .int .u8 0, .int .u8 0, .int .u8 0, .int .u8 0, .int .u8 0, .int .u8 0, .int .u8 0, .int .u8 0, .int .u8 0, .int .u8 0, .int .u8 0, .int .u8 0, .int .u8 0, .int .u8 0, .int .u8 0, .int .u8 0, .int .u8 0, .int .u8 0, .int .u8 0, .int .u8 0, .int .u8 0, .int .u8 0, .int .u8 0, .int .u8 0, .int .u8 0] 27
          go_simp
          refine hK.out _ _ (hb.mono (by have := fb.size; have := HB0.out; omega)) ?_
          clear hK K
          try simp only [Act.put, List.setIfInBounds_toArray, List.set_cons_zero, List.set_cons_succ]
          obtain ⟨p10, hp10⟩ : ∃ p, p = V1.heap.size := ⟨_, rfl⟩
          have HP10 : Hid (B0 ≤ p10) := (show _ ≤ _ by rw [hp10]; have := fb.size; have := HB0.out; omega)
          have hne : Hid (p10 ≠ p11) := (show _ ≠ _ by have := b11.lt; omega)
          rw [← hp10] at b10 ⊢
          clear hp10
          generalize V1.alloc (.cells #[.int .u8 0, .int .u8 0, .int .u8 0, .int .u8 0, .int .u8 0, .int .u8 0, .int .u8 0, .int .u8 0, .int .u8 0, .int .u8 0, .int .u8 0, .int .u8 0, .int .u8 0, .int .u8 0, .int .u8 0, .int .u8 0, .int .u8 0, .int .u8 0, .int .u8 0, .int .u8 0, .int .u8 0, .int .u8 0, .int .u8 0, .int .u8 0, .int .u8 0, .int .u8 0, .int .u8 0, .int .u8 0, .int .u8 0, .int .u8 0, .int .u8 0, .int .u8 0] 27) = V2 at *
          replace b11 := b11.to hb
          replace fb := fb.trans (hb.mono (by have := fb.size; have := HB0.out; omega))
          clear hb
          refine wpP_one ?_
          refine wpP_loud rfl (by rfl) ?_
          intro K hK
          go_simp
          refine (leaf_any (Acc.mk (i : Int) (1 + m) 0 0) HAW.out V2).mono ?_
          rintro e V3 ⟨rfl, hb⟩
          rw [HX0.out]
          unfold hv
          refine hK.out _ _ (hb.mono (by have := fb.size; have := HB0.out; omega)) ?_
          clear hK K
          try simp only [Act.put, List.setIfInBounds_toArray, List.set_cons_zero, List.set_cons_succ]
          replace b10 := b10.to hb
          replace b11 := b11.to hb
          replace fb := fb.trans (hb.mono (by have := fb.size; have := HB0.out; omega))
          clear hb
          refine wpP_one ?_
          refine wpP_loud rfl (by rfl) ?_
          intro K hK
          go_simp
          refine (leaf_any (Acc.mk (j : Int) (1 + m + 1) 0 0) HBW.out V3).mono ?_
          rintro e V4 ⟨rfl, hb⟩
          rw [HY0.out]
          unfold hv
          refine hK.out _ _ (hb.mono (by have := fb.size; have := HB0.out; omega)) ?_
          clear hK K
          try simp only [Act.put, List.setIfInBounds_toArray, List.set_cons_zero, List.set_cons_succ]
          replace b10 := b10.to hb
          replace b11 := b11.to hb
          replace fb := fb.trans (hb.mono (by have := fb.size; have := HB0.out; omega))
          clear hb
          refine wpP_one ?_
          refine wpP_loud rfl (by rfl) ?_
          intro K hK
          refine wp_store_fld _ _ _ rfl p10 0 _ _ (B8 x0) rfl _ rfl rfl b10 (by rw [B8_len, HLA.out]; decide) (info_hash HLA.out) (B8_one _) ?_
          intro V5 bn u
          rw [put_all _ _ (by rw [B8_len, HLA.out]; rfl)] at bn
          refine hK.out _ _ (below_but u HP10.out (by have := fb.size; have := HB0.out; omega)) ?_
          clear hK K
          try simp only [Act.put, List.setIfInBounds_toArray, List.set_cons_zero, List.set_cons_succ]
          replace b11 := b11.but u (by intro e; injection e with e; exact hne.out e.symm)
          clear b10
          have b10 := bn
          clear bn
          replace fb := fb.trans (below_but u HP10.out (by have := fb.size; have := HB0.out; omega))
          clear u
          refine wpP_one ?_
          refine wpP_loud rfl (by rfl) ?_
          intro K hK
          refine wp_store_fld _ _ _ rfl p11 0 _ _ (B8 y0) rfl _ rfl rfl b11 (by rw [B8_len, HLB.out]; decide) (info_hash HLB.out) (B8_one _) ?_
          intro V6 bn u
          rw [put_all _ _ (by rw [B8_len, HLB.out]; rfl)] at bn
          refine hK.out _ _ (below_but u HP11.out (by have := fb.size; have := HB0.out; omega)) ?_
          clear hK K
          try simp only [Act.put, List.setIfInBounds_toArray, List.set_cons_zero, List.set_cons_succ]
          replace b10 := b10.but u (by intro e; injection e with e; exact hne.out e)
          clear b11
          have b11 := bn
          clear bn
          replace fb := fb.trans (below_but u HP11.out (by have := fb.size; have := HB0.out; omega))
          clear u
          refine wpP_done ?_
          exact ⟨rfl, p10, p11, rfl, (show _ ≤ _ by rw [← HQ.out, HB0.out]; exact HP10.out), (show _ ≤ _ by rw [← HQ.out, HB0.out]; exact HP11.out), hne, b10, b11, hfd.trans (by rw [← HQ.out, HB0.out]; exact fb)⟩
    case mid =>
      rintro e aa w6 ⟨rfl, X, Y, rfl, hX, hY, hXY, bx6, by6, f6⟩
      obtain ⟨Vs, hVs⟩ : ∃ W, W = Vn := ⟨_, rfl⟩
      rw [← hVs] at f6 hX hY hp_vb f3
      clear hVs ba3 bb3
      have hvs := hp_vb
      have fs := f3
      clear hp_vb f3
      go_wp2_with fail
      obtain ⟨r, hr⟩ : ∃ l, rootJ 8 (leavesL t) = l := ⟨_, rfl⟩
      have HR := Lib.hid hr
      have HRL : Hid (r.length = 32) := (show _ = _ by rw [← hr]; exact root_len t)
      clear hr
      go_loopw [12, 13] (fun mt kk wr => ∃ (q : Nat) (mb : Bool) (cx cy : List UInt8), mt = .bool mb ∧ kk = .int .i64 (q : Int) ∧ q ≤ 8 ∧ Hid (cx.length = 32) ∧ Hid (cy.length = 32) ∧ Hid (mb = true ∨ ∀ r, r < q → (i / 2 ^ r) ^^^ (j / 2 ^ r) ≠ 1) ∧ Blk wr X 27 (B8 cx) ∧ Blk wr Y 27 (B8 cy) ∧ Below Vs.heap.size Vs wr) (fun _ kk _ => 8 - (intOf kk).toNat)
      case atStart => exact ⟨0, false, _, _, rfl, rfl, Nat.zero_le _, HLA, HLB, (show _ ∨ _ from .inr (fun r h => absurd h (Nat.not_lt_zero r))), bx6, by6, f6⟩
      case round =>
        clear bx6 by6 f6
        obtain ⟨q, mb, cx, cy, rfl, rfl, hq, HCX, HCY, HP, bxr, byr, hf⟩ := hrel
        by_cases hlt : q < 8
        · have t2 : (q : Int) < 8 := by omega
          have hbi := bit_at i q hi1
          have hbj := bit_at j q hj1
          cases mb with
          | true =>
            go_wp2_with (first
              | (refine wpl_load_fld (by rfl) _ _ rfl X 0 rfl (B8 cx) _ bxr.range Try.underlying27 rfl (info_hash HCX.out) ?_)
              | (refine wpl_load_fld (by rfl) _ _ rfl Y 0 rfl (B8 cy) _ byr.range Try.underlying27 rfl (info_hash HCY.out) ?_)
              | (refine wpl_build (by rfl) _ _ rfl _ built_zero_ ?_))
            refine (over_any2 cx zero32 HCX.out rfl _ _).mono ?_
            rintro e waa ⟨rfl, hba⟩
            obtain ⟨nx, hno⟩ : ∃ l, (if (i : Int) / 2 ^ q % 2 = 1 then twoS zero32 cx else twoS cx zero32) = l := ⟨_, rfl⟩
            have HNnx : Hid (nx.length = 32) := (show _ = _ by rw [← hno]; split <;> exact twoS_len _ _)
            rw [hno]
            clear hno
            have bxa := bxr.to hba
            have bya := byr.to hba
            have hfa := hf.trans (hba.mono hf.size)
            clear bxr byr hf hba
            unfold hv
            go_wp2_with (first
              | (refine wpl_store_fld (by rfl) _ _ _ rfl X 0 _ _ (B8 nx) rfl _ rfl rfl bxa (by rw [B8_len, B8_len, HNnx.out, HCX.out]; decide) (info_hash HNnx.out) (B8_one _) ?_
                 intro wa bxr bua
                 rw [put_all _ _ (by rw [B8_len, B8_len, HNnx.out, HCX.out])] at bxr
                 have byr := bya.but bua (by intro e; injection e with e; exact hXY.out e.symm)
                 have hf := hfa.trans (below_but bua hX.out hfa.size)
                 clear bua bya hfa))
            go_roundw
            case rel => exact ⟨q + 1, true, nx, cy, rfl, by go_num, by omega, HNnx, HCY, (show _ ∨ _ from .inl rfl), bxr, byr, hf⟩
            case measure => simp [intOf]; omega
          | false =>
            have hxor : bits .xor .i64 ((i : Int) / 2 ^ q) ((j : Int) / 2 ^ q) = (((i / 2 ^ q) ^^^ (j / 2 ^ q) : Nat) : Int) := by
              rw [shr_nat, shr_nat]
              exact xor_i64_nat (i / 2 ^ q) (j / 2 ^ q) (by have := Nat.div_le_self i (2 ^ q); omega) (by have := Nat.div_le_self j (2 ^ q); omega)
            by_cases hpb : (i / 2 ^ q) ^^^ (j / 2 ^ q) = 1
            · rw [hpb] at hxor
              clear hpb
              go_wp2_with (first
                | (refine wpl_load_fld (by rfl) _ _ rfl X 0 rfl (B8 cx) _ bxr.range Try.underlying27 rfl (info_hash HCX.out) ?_)
                | (refine wpl_load_fld (by rfl) _ _ rfl Y 0 rfl (B8 cy) _ byr.range Try.underlying27 rfl (info_hash HCY.out) ?_)
                | (refine wpl_build (by rfl) _ _ rfl _ built_zero_ ?_))
              refine (over_any2 cx cy HCX.out HCY.out _ _).mono ?_
              rintro e waa ⟨rfl, hba⟩
              obtain ⟨nx, hno⟩ : ∃ l, (if (i : Int) / 2 ^ q % 2 = 1 then twoS cy cx else twoS cx cy) = l := ⟨_, rfl⟩
              have HNnx : Hid (nx.length = 32) := (show _ = _ by rw [← hno]; split <;> exact twoS_len _ _)
              rw [hno]
              clear hno
              have bxa := bxr.to hba
              have bya := byr.to hba
              have hfa := hf.trans (hba.mono hf.size)
              clear bxr byr hf hba
              unfold hv
              go_wp2_with (first
                | (refine wpl_store_fld (by rfl) _ _ _ rfl X 0 _ _ (B8 nx) rfl _ rfl rfl bxa (by rw [B8_len, B8_len, HNnx.out, HCX.out]; decide) (info_hash HNnx.out) (B8_one _) ?_
                   intro wa bxr bua
                   rw [put_all _ _ (by rw [B8_len, B8_len, HNnx.out, HCX.out])] at bxr
                   have byr := bya.but bua (by intro e; injection e with e; exact hXY.out e.symm)
                   have hf := hfa.trans (below_but bua hX.out hfa.size)
                   clear bua bya hfa))
              go_roundw
              case rel => exact ⟨q + 1, true, nx, cy, rfl, by go_num, by omega, HNnx, HCY, (show _ ∨ _ from .inl rfl), bxr, byr, hf⟩
              case measure => simp [intOf]; omega
            · have t3 : ((((i / 2 ^ q) ^^^ (j / 2 ^ q) : Nat) : Int) == 1) = false := by simp; omega
              have HPN : Hid (false = true ∨ ∀ r, r < q + 1 → (i / 2 ^ r) ^^^ (j / 2 ^ r) ≠ 1) := (show _ ∨ _ from .inr (fun r h => by
                rcases Nat.lt_succ_iff_lt_or_eq.1 h with h | rfl
                · rcases HP.out with h2 | h2
                  · cases h2
                  · exact h2 r h
                · exact hpb))
              clear hpb
              go_wp2_with (first
                | (refine wpl_load_fld (by rfl) _ _ rfl X 0 rfl (B8 cx) _ bxr.range Try.underlying27 rfl (info_hash HCX.out) ?_)
                | (refine wpl_load_fld (by rfl) _ _ rfl Y 0 rfl (B8 cy) _ byr.range Try.underlying27 rfl (info_hash HCY.out) ?_)
                | (refine wpl_build (by rfl) _ _ rfl _ built_zero_ ?_))
              refine (over_any2 cx zero32 HCX.out rfl _ _).mono ?_
              rintro e waa ⟨rfl, hba⟩
              obtain ⟨nx, hno⟩ : ∃ l, (if (i : Int) / 2 ^ q % 2 = 1 then twoS zero32 cx else twoS cx zero32) = l := ⟨_, rfl⟩
              have HNnx : Hid (nx.length = 32) := (show _ = _ by rw [← hno]; split <;> exact twoS_len _ _)
              rw [hno]
              clear hno
              have bxa := bxr.to hba
              have bya := byr.to hba
              have hfa := hf.trans (hba.mono hf.size)
              clear bxr byr hf hba
              unfold hv
              go_wp2_with (first
                | (refine wpl_store_fld (by rfl) _ _ _ rfl X 0 _ _ (B8 nx) rfl _ rfl rfl bxa (by rw [B8_len, B8_len, HNnx.out, HCX.out]; decide) (info_hash HNnx.out) (B8_one _) ?_
                   intro wa bxr bua
                   rw [put_all _ _ (by rw [B8_len, B8_len, HNnx.out, HCX.out])] at bxr
                   have byr := bya.but bua (by intro e; injection e with e; exact hXY.out e.symm)
                   have hf := hfa.trans (below_but bua hX.out hfa.size)
                   clear bua bya hfa)
                | (refine wpl_load_fld (by rfl) _ _ rfl Y 0 rfl (B8 cy) _ byr.range Try.underlying27 rfl (info_hash HCY.out) ?_)
                | (refine wpl_build (by rfl) _ _ rfl _ built_zero_ ?_))
              refine (over_any2 cy zero32 HCY.out rfl _ _).mono ?_
              rintro e wba ⟨rfl, hba⟩
              obtain ⟨ny, hno⟩ : ∃ l, (if (j : Int) / 2 ^ q % 2 = 1 then twoS zero32 cy else twoS cy zero32) = l := ⟨_, rfl⟩
              have HNny : Hid (ny.length = 32) := (show _ = _ by rw [← hno]; split <;> exact twoS_len _ _)
              rw [hno]
              clear hno
              have bxa := bxr.to hba
              have bya := byr.to hba
              have hfa := hf.trans (hba.mono hf.size)
              clear bxr byr hf hba
              unfold hv
              go_wp2_with (first
                | (refine wpl_store_fld (by rfl) _ _ _ rfl Y 0 _ _ (B8 ny) rfl _ rfl rfl bya (by rw [B8_len, B8_len, HNny.out, HCY.out]; decide) (info_hash HNny.out) (B8_one _) ?_
                   intro wb byr bua
                   rw [put_all _ _ (by rw [B8_len, B8_len, HNny.out, HCY.out])] at byr
                   have bxr := bxa.but bua (by intro e; injection e with e; exact hXY.out e)
                   have hf := hfa.trans (below_but bua hY.out hfa.size)
                   clear bua bxa hfa))
              go_roundw
              case rel => exact ⟨q + 1, false, nx, ny, rfl, by go_num, by omega, HNnx, HNny, HPN, bxr, byr, hf⟩
              case measure => simp [intOf]; omega
        · obtain rfl : q = 8 := by omega
          have t2 : ¬ (8 : Int) < 8 := by omega
          obtain rfl : mb = true := by
            obtain ⟨k, hk, hx⟩ := part_bit 8 i j hi1 hj1 hij
            rcases HP.out with h | h
            · exact h
            · exact absurd hx (h k hk)
          have hvr := hvs.to hf
          have fr := fs.trans (hf.mono fs.size)
          clear byr hf hvs fs HP
          by_cases hrx : r = cx
          · rw [hrx] at HR
            clear hrx HRL
            go_wp2_with fail
            refine wp_region_P (.take 0 (.take 2 (.one 1 (.take 3 .done)))) (Below wr.drew.heap.size) (by kernel_rfl) (by kernel_rfl) (by kernel_rfl) (by decide +kernel) (Below.refl _) (fun _ _ _ => Below.trans) (by intro d v c a w h; first | (cases d <;> exact h) | exact absurd h.1 (by simp)) ?_
            have bxd : Blk wr.drew X 27 (B8 cx) := bxr
            have hvd : StV wr.drew vb t := hvr.drew
            have fd : Below w.heap.size w wr.drew := fr.drew
            clear bxr hvr fr
            generalize wr.drew = V0 at *
            have fb : Below V0.heap.size V0 V0 := Below.refl _ _
            have hNx := bxd.lt
            first | (refine wpP_quiet (v := ?_) rfl (by rfl) ?_ ?_; rotate_left; (· (intro w' hw'; go_simp; try with_reducible rfl)); simp only [Act.put, List.setIfInBounds_toArray, List.set_cons_zero, List.set_cons_succ]) | (refine wpP_skip rfl (by rfl) ?_; simp only [Act.put, List.setIfInBounds_toArray, List.set_cons_zero, List.set_cons_succ])
            refine wpP_load rfl (by rfl) _ _ rfl X 0 rfl (B8 cx) _ (fun w' h => (bxd.below (fb.trans h) hNx).range) Try.underlying27 rfl (info_hash HCX.out) ?_
            simp only [Act.put, List.setIfInBounds_toArray, List.set_cons_zero, List.set_cons_succ]
            refine wpP_one ?_
            refine wpP_loud rfl (by rfl) ?_
            intro K hK
            go_simp
            refine (stRefRoot_any vb t _ (hvd.to fb) HS2.out HWF.out).mono ?_
            rintro e Vn ⟨rfl, hb⟩
            rw [HR.out]
            unfold hv
            refine hK.out _ _ (hb.mono fb.size) ?_
            clear hK K
            try simp only [Act.put, List.setIfInBounds_toArray, List.set_cons_zero, List.set_cons_succ]
            replace fb := fb.trans (hb.mono fb.size)
            clear hb
            have eqk := eq_self cx HCX.out
            first | (refine wpP_quiet (v := ?_) rfl (by rfl) ?_ ?_; rotate_left; (· (intro w' hw'; go_simp; try with_reducible rfl)); simp only [Act.put, List.setIfInBounds_toArray, List.set_cons_zero, List.set_cons_succ]) | (refine wpP_skip rfl (by rfl) ?_; simp only [Act.put, List.setIfInBounds_toArray, List.set_cons_zero, List.set_cons_succ])
            clear eqk
            refine wpP_done ?_
            have bxr := bxd.to fb
            have hvr := hvd.to fb
            have fr := fd.trans (fb.mono fd.size)
            clear bxd hvd fd fb hNx
            go_wp2_with fail
            refine wp_region_P (.take 0 (.take 1 (.take 2 (.take 4 (.one 3 (.take 5 (.take 6 (.take 7 .done)))))))) (Below Vn.drew.heap.size) (by kernel_rfl) (by kernel_rfl) (by kernel_rfl) (by decide +kernel) (Below.refl _) (fun _ _ _ => Below.trans) (by intro d v c a w h; first | (cases d <;> exact h) | exact absurd h.1 (by simp)) ?_
            have bxd : Blk Vn.drew X 27 (B8 cx) := bxr
            have hvd : StV Vn.drew vb t := hvr.drew
            have fd : Below w.heap.size w Vn.drew := fr.drew
            clear bxr hvr fr
            generalize Vn.drew = V0 at *
            have fb : Below V0.heap.size V0 V0 := Below.refl _ _
            have hNx := bxd.lt
            first | (refine wpP_quiet (v := ?_) rfl (by rfl) ?_ ?_; rotate_left; (· (intro w' hw'; go_simp; try with_reducible rfl)); simp only [Act.put, List.setIfInBounds_toArray, List.set_cons_zero, List.set_cons_succ]) | (refine wpP_skip rfl (by rfl) ?_; simp only [Act.put, List.setIfInBounds_toArray, List.set_cons_zero, List.set_cons_succ])
            first | (refine wpP_quiet (v := ?_) rfl (by rfl) ?_ ?_; rotate_left; (· (intro w' hw'; go_simp; try with_reducible rfl)); simp only [Act.put, List.setIfInBounds_toArray, List.set_cons_zero, List.set_cons_succ]) | (refine wpP_skip rfl (by rfl) ?_; simp only [Act.put, List.setIfInBounds_toArray, List.set_cons_zero, List.set_cons_succ])
            first | (refine wpP_quiet (v := ?_) rfl (by rfl) ?_ ?_; rotate_left; (· (intro w' hw'; go_simp; try with_reducible rfl)); simp only [Act.put, List.setIfInBounds_toArray, List.set_cons_zero, List.set_cons_succ]) | (refine wpP_skip rfl (by rfl) ?_; simp only [Act.put, List.setIfInBounds_toArray, List.set_cons_zero, List.set_cons_succ])
            refine wpP_load rfl (by rfl) _ _ rfl X 0 rfl (B8 cx) _ (fun w' h => (bxd.below (fb.trans h) hNx).range) Try.underlying27 rfl (info_hash HCX.out) ?_
            simp only [Act.put, List.setIfInBounds_toArray, List.set_cons_zero, List.set_cons_succ]
            refine wpP_one ?_
            refine wpP_loud rfl (by rfl) ?_
            intro K hK
            go_simp
            refine (stRoot_any vb t _ (hvd.to fb) HS2.out HWF.out).mono ?_
            rintro e Vn ⟨rfl, hb⟩
            rw [HR.out]
            unfold hv
            refine hK.out _ _ (hb.mono fb.size) ?_
            clear hK K
            try simp only [Act.put, List.setIfInBounds_toArray, List.set_cons_zero, List.set_cons_succ]
            replace fb := fb.trans (hb.mono fb.size)
            clear hb
            have eqk := eq_self cx HCX.out
            first | (refine wpP_quiet (v := ?_) rfl (by rfl) ?_ ?_; rotate_left; (· (intro w' hw'; go_simp; try with_reducible rfl)); simp only [Act.put, List.setIfInBounds_toArray, List.set_cons_zero, List.set_cons_succ]) | (refine wpP_skip rfl (by rfl) ?_; simp only [Act.put, List.setIfInBounds_toArray, List.set_cons_zero, List.set_cons_succ])
            clear eqk
            first | (refine wpP_quiet (v := ?_) rfl (by rfl) ?_ ?_; rotate_left; (· (intro w' hw'; go_simp; try with_reducible rfl)); simp only [Act.put, List.setIfInBounds_toArray, List.set_cons_zero, List.set_cons_succ]) | (refine wpP_skip rfl (by rfl) ?_; simp only [Act.put, List.setIfInBounds_toArray, List.set_cons_zero, List.set_cons_succ])
            first | (refine wpP_quiet (v := ?_) rfl (by rfl) ?_ ?_; rotate_left; (· (intro w' hw'; go_simp; try with_reducible rfl)); simp only [Act.put, List.setIfInBounds_toArray, List.set_cons_zero, List.set_cons_succ]) | (refine wpP_skip rfl (by rfl) ?_; simp only [Act.put, List.setIfInBounds_toArray, List.set_cons_zero, List.set_cons_succ])
            refine wpP_done ?_
            go_wp2_with fail
            go_ret
            exact ⟨rfl, fd.trans (fb.mono fd.size)⟩
          · go_wp2_with fail
            refine wp_region_P (.take 0 (.take 2 (.one 1 (.take 3 .done)))) (Below wr.drew.heap.size) (by kernel_rfl) (by kernel_rfl) (by kernel_rfl) (by decide +kernel) (Below.refl _) (fun _ _ _ => Below.trans) (by intro d v c a w h; first | (cases d <;> exact h) | exact absurd h.1 (by simp)) ?_
            have bxd : Blk wr.drew X 27 (B8 cx) := bxr
            have hvd : StV wr.drew vb t := hvr.drew
            have fd : Below w.heap.size w wr.drew := fr.drew
            clear bxr hvr fr
            generalize wr.drew = V0 at *
            have fb : Below V0.heap.size V0 V0 := Below.refl _ _
            have hNx := bxd.lt
            first | (refine wpP_quiet (v := ?_) rfl (by rfl) ?_ ?_; rotate_left; (· (intro w' hw'; go_simp; try with_reducible rfl)); simp only [Act.put, List.setIfInBounds_toArray, List.set_cons_zero, List.set_cons_succ]) | (refine wpP_skip rfl (by rfl) ?_; simp only [Act.put, List.setIfInBounds_toArray, List.set_cons_zero, List.set_cons_succ])
            refine wpP_load rfl (by rfl) _ _ rfl X 0 rfl (B8 cx) _ (fun w' h => (bxd.below (fb.trans h) hNx).range) Try.underlying27 rfl (info_hash HCX.out) ?_
            simp only [Act.put, List.setIfInBounds_toArray, List.set_cons_zero, List.set_cons_succ]
            refine wpP_one ?_
            refine wpP_loud rfl (by rfl) ?_
            intro K hK
            go_simp
            refine (stRefRoot_any vb t _ (hvd.to fb) HS2.out HWF.out).mono ?_
            rintro e Vn ⟨rfl, hb⟩
            rw [HR.out]
            unfold hv
            refine hK.out _ _ (hb.mono fb.size) ?_
            clear hK K
            try simp only [Act.put, List.setIfInBounds_toArray, List.set_cons_zero, List.set_cons_succ]
            replace fb := fb.trans (hb.mono fb.size)
            clear hb
            have eqk := eq_other r cx HRL.out HCX.out hrx
            first | (refine wpP_quiet (v := ?_) rfl (by rfl) ?_ ?_; rotate_left; (· (intro w' hw'; go_simp; try with_reducible rfl)); simp only [Act.put, List.setIfInBounds_toArray, List.set_cons_zero, List.set_cons_succ]) | (refine wpP_skip rfl (by rfl) ?_; simp only [Act.put, List.setIfInBounds_toArray, List.set_cons_zero, List.set_cons_succ])
            clear eqk
            refine wpP_done ?_
            go_wp2_with fail
            go_ret
            exact ⟨rfl, fd.trans (fb.mono fd.size)⟩
end Go.Proofs.Ytakebmpnbdlcoaa
