/- The walk of capstanlaw12.TraceGrows. -/
import Derived.Test.YtakebmpnbdlcoaaTraceK
import Derived.Test.YtakebmpnbdlcoaaFork
set_option linter.unusedSimpArgs false
set_option linter.unusedVariables false
namespace Go.Proofs.Ytakebmpnbdlcoaa
open Go.RowKit
set_option maxRecDepth 100000
theorem split_two (k : Nat) : splitN (2 * 2 ^ k) = 2 ^ k := by
  have : 0 < 2 ^ k := Nat.two_pow_pos k
  exact split_of (j := k) (by omega) (by rw [Nat.pow_succ]; omega)
theorem split_more (k : Nat) : splitN (2 * 2 ^ k + 1) = 2 * 2 ^ k := by
  have h : 0 < 2 ^ k := Nat.two_pow_pos k
  have := split_of (n := 2 * 2 ^ k + 1) (j := k + 1) (by rw [Nat.pow_succ]; omega) (by rw [Nat.pow_succ, Nat.pow_succ]; omega)
  rw [this, Nat.pow_succ]
  omega
theorem grows_two (l : List (List UInt8)) (k : Nat) (h : l.length = 2 * 2 ^ k) : commitS l = twoS (commitS (l.take (2 ^ k))) (commitS (l.drop (2 ^ k))) := by
  have : 0 < 2 ^ k := Nat.two_pow_pos k
  rw [commitS_step l (by omega), h, split_two]
theorem grows_more (l : List (List UInt8)) (x : List UInt8) (k : Nat) (h : l.length = 2 * 2 ^ k) : commitS (l ++ [x]) = twoS (commitS l) x := by
  have h0 : 0 < 2 ^ k := Nat.two_pow_pos k
  rw [commitS_step _ (by rw [List.length_append]; simp; omega), List.length_append, h]
  rw [show 2 * 2 ^ k + [x].length = 2 * 2 ^ k + 1 from rfl, split_more, ← h, List.take_left, List.drop_left, commitS_one]
set_option maxRecDepth 100000 in
set_option maxHeartbeats 8000000 in
theorem traceGrows_walk (w : World) (a : Int) (a_lo : -9223372036854775808 ≤ a) (a_hi : a < 9223372036854775808) (y : UInt8) :
    Calls Try.prog 12 #[.int .i64 a, .int .u8 (y.toNat : Int)] w (RB true w) := by
  go_enter Try.func12, Try.ntmps12
  go_wp2_with fail
  refine (traceKnown_any w).mono ?_
  rintro e w1 ⟨rfl, h1⟩
  go_wp2_with fail
  refine (within_capstanlaw12 a 6 w1 (by omega) (by omega) a_lo a_hi).mono ?_
  rintro e w1' ⟨rfl, rfl⟩
  obtain ⟨k, hk⟩ : ∃ k : Nat, a % 6 = (k : Int) := ⟨(a % 6).toNat, by omega⟩
  have hk5 : k ≤ 5 := by omega
  rw [hk]
  clear hk a_lo a_hi
  obtain ⟨M, hM⟩ : ∃ M, M = 2 ^ k := ⟨_, rfl⟩
  have hM1 : 1 ≤ M := by rw [hM]; exact Nat.one_le_two_pow
  have hM32 : M ≤ 32 := by rw [hM]; exact Nat.pow_le_pow_right (by decide) hk5
  have k1 : wrap64 ((2 : Int) ^ k) = (M : Int) := by
    rw [show ((2 : Int) ^ k) = (M : Int) from by rw [hM]; simp]
    exact IntWalk.wrap64_in _ (by omega)
  have k2 : IntKind.i64.wrap ((2 : Int) ^ k) = (M : Int) := by
    rw [show ((2 : Int) ^ k) = (M : Int) from by rw [hM]; simp]
    exact IntWalk.i64_in _ (by omega)
  have HM := Lib.hid hM
  clear hM
  go_wp2_with fail
  obtain ⟨N, hN⟩ : ∃ N, N = 2 * M := ⟨_, rfl⟩
  have u1 : 2 * (M : Int) = (N : Int) := by omega
  rw [u1]
  clear k1 k2
  refine (hashes_any N w1 (by omega)).mono ?_
  rintro e w2 ⟨A2, c2, rfl, ho2, h2⟩
  have HHL := Lib.hid (hashL_len N)
  have HHA := Lib.hid (hashL_all N)
  generalize hashL N = L at *
  have hle2 := ho2.le
  have f2 := h1.trans (h2.mono h1.size)
  obtain ⟨g, rest, rfl, hg, bk, hrl⟩ := own_row ho2 (by omega)
  have sl := ho2.sl
  have slf := sl.front32 HHA.out (k := M) (by omega)
  have slb := sl.back32 HHA.out (k := M) (by omega)
  rw [Nat.zero_add] at slb
  have hc63 : c2 ≤ 9223372036854775807 := by have := hle2.2; simp only [maxLen] at this; omega
  have kc : (M : Int) ≤ (c2 : Int) := by omega
  have kn : (M : Int) ≤ (N : Int) := by omega
  have ck : ¬ c2 = M := by omega
  have HFA := Lib.hid (len32_take HHA.out M)
  have HBA := Lib.hid (len32_drop HHA.out M)
  have HFL : Hid ((L.take M).length = M) := (show _ = _ by rw [List.length_take, HHL.out]; omega)
  have HBL : Hid ((L.drop M).length = N - M) := (show _ = _ by rw [List.length_drop, HHL.out])
  have hle3 : Hid (c2 - M ≤ maxLen) := (show _ ≤ _ by have := hle2.2; omega)
  have hle4 : Hid (c2 ≤ maxLen) := hle2.2
  have HSA := Lib.hid (commitS_len (L.take M) HFA.out)
  have HSB := Lib.hid (commitS_len (L.drop M) HBA.out)
  have G2 : Hid (commitS L = twoS (commitS (L.take M)) (commitS (L.drop M))) := (show _ = _ by rw [HM.out]; exact grows_two L k (by rw [HHL.out, hN, HM.out]))
  have G3 : ∀ x, Hid (commitS (L ++ [x]) = twoS (commitS L) x) := fun x => grows_more L x k (by rw [HHL.out, hN, HM.out])
  clear h1 h2 bk hrl ho2
  obtain ⟨sa, hsa⟩ : ∃ sa, sa = commitS (L.take M) := ⟨_, rfl⟩
  obtain ⟨sb, hsb⟩ : ∃ sb, sb = commitS (L.drop M) := ⟨_, rfl⟩
  rw [← hsa] at HSA G2
  rw [← hsb] at HSB G2
  have ESA := Lib.hid hsa.symm
  have ESB := Lib.hid hsb.symm
  have HN := Lib.hid hN
  clear hsa hsb hN
  go_wp2_with fail
  refine Code.wp_mono (Q := fun e aa w' => e = .normal ∧ ∃ p8 p9 : Nat, aa = ⟨#[.int .i64 k, .int .u8 (y.toNat : Int), undef, undef, .bool false, .int .i64 M, .slice (some ⟨g, 0, none⟩) N c2, .pointer (some ⟨p8, 0, none⟩), .pointer (some ⟨p9, 0, none⟩), undef, .bool true, .bool false, .int .i64 a, .int .i64 k, .int .i64 k, .int .u64 k, .int .i64 M, .int .i64 M, .int .i64 N, .slice (some ⟨g, 0, none⟩) N c2, .slice (some ⟨g, 0, none⟩) N c2, .int .i64 M, .slice (some ⟨g, 0, none⟩) M c2, .agg (B8 sa).toArray, .slice (some ⟨g, 0, none⟩) N c2, .int .i64 M, .slice (some ⟨g, M * 32, none⟩) (N - M) (c2 - M), .agg (B8 sb).toArray, undef, undef, undef, undef, undef, undef, undef, undef, undef, undef, undef, undef, undef, undef, undef, undef, undef, undef, undef, undef, undef, undef, undef], []⟩ ∧ Blk w' p8 27 (B8 sa) ∧ Blk w' p9 27 (B8 sb) ∧ Below w2.heap.size w2 w') ?mid ?reg
  case reg =>
    refine wp_region_P (.take 0 (.take 1 (.take 2 (.take 4 (.take 5 (.take 6 (.three 3 (.three 7 (.two 8 (.one 9 (.one 10 (.one 11 .done))) 9 (.one 8 (.one 10 (.one 11 .done)))) 8 (.two 7 (.one 9 (.one 10 (.one 11 .done))) 9 (.one 7 (.one 10 (.one 11 .done)))) 9 (.two 7 (.one 8 (.one 10 (.one 11 .done))) 8 (.one 7 (.one 10 (.one 11 .done))))) 8 (.two 3 (.two 7 (.one 9 (.one 10 (.one 11 .done))) 9 (.one 7 (.one 10 (.one 11 .done)))) 9 (.one 3 (.one 7 (.one 10 (.one 11 .done))))) 9 (.two 3 (.two 7 (.one 8 (.one 10 (.one 11 .done))) 8 (.one 7 (.one 10 (.one 11 .done)))) 8 (.one 3 (.one 7 (.one 10 (.one 11 .done)))))))))))) (fun _ _ => True) (by kernel_rfl) (by kernel_rfl) (by kernel_rfl) (by decide) (fun _ => trivial) (fun _ _ _ _ _ => trivial) (by intro d v c a w h; exact absurd h.1 (by simp)) ?_
    have fb : Below w2.heap.size w2 w2.drew := (Below.refl _ _).drew
    generalize w2.drew = V0 at *
    repeat (first | (refine wpP_quiet (v := ?_) rfl (by rfl) ?_ ?_; rotate_left; (· (intro w' hw'; go_simp; try with_reducible rfl)); try simp only [Act.put, List.setIfInBounds_toArray, List.set_cons_zero, List.set_cons_succ]))
    refine wpP_three ?_ ?_ ?_
    · refine wpP_loud rfl (by rfl) ?_
      intro K hK
      go_simp
      refine (cmt_any _ M c2 (L.take M) V0 (by omega) hle4.out (by omega) HFA.out HFL.out (slf.to fb)).mono ?_
      rintro e V1 ⟨rfl, hb⟩
      rw [ESA.out]
      unfold hv
      refine hK.out _ _ trivial ?_
      clear hK K
      try simp only [Act.put, List.setIfInBounds_toArray, List.set_cons_zero, List.set_cons_succ]
      replace fb := fb.trans (hb.mono fb.size)
      clear hb
      refine wpP_three ?_ ?_ ?_
      · refine wpP_loud rfl (by rfl) ?_
        intro K hK
        go_simp
        refine (cmt_any _ (N - M) (c2 - M) (L.drop M) V1 (by omega) hle3.out (by omega) HBA.out HBL.out (slb.to fb)).mono ?_
        rintro e V2 ⟨rfl, hb⟩
        rw [ESB.out]
        unfold hv
        refine hK.out _ _ trivial ?_
        clear hK K
        try simp only [Act.put, List.setIfInBounds_toArray, List.set_cons_zero, List.set_cons_succ]
        replace fb := fb.trans (hb.mono fb.size)
        clear hb
        refine wpP_two ?_ ?_
        · refine wpP_loud rfl (by rfl) ?_
          intro K hK
          have hb : Below V2.heap.size V2 (V2.alloc (.cells #[.int .u8 0, .int .u8 0, .int .u8 0, .int .u8 0, .int .u8 0, .int .u8 0, .int .u8 0, .int .u8 0, .int .u8 0, .int .u8 0, .int .u8 0, .int .u8 0, .int .u8 0, .int .u8 0, .int .u8 0, .int .u8 0, .int .u8 0, .int .u8 0, .int .u8 0, .int .u8 0, .int .u8 0, .int .u8 0, .int .u8 0, .int .u8 0, .int .u8 0, .int .u8 0, .int .u8 0, .int .u8 0, .int .u8 0, .int .u8 0, .int .u8 0, .int .u8 0] 27)) := (Below.refl _ _).alloc (Nat.le_refl _) _
          have b8 : Blk (V2.alloc (.cells #[.int .u8 0, .int .u8 0, .int .u8 0, .int .u8 0, .int .u8 0, .int .u8 0, .int .u8 0, .int .u8 0, .int .u8 0, .int .u8 0, .int .u8 0, .int .u8 0, .int .u8 0, .int .u8 0, .int .u8 0, .int .u8 0, .int .u8 0, .int .u8 0, .int .u8 0, .int .u8 0, .int .u8 0, .int .u8 0, .int .u8 0, .int .u8 0, .int .u8 0, .int .u8 0, .int .u8 0, .int .u8 0, .int .u8 0, .int .u8 0, .int .u8 0, .int .u8 0] 27)) V2.heap.size 27 (B8 zero32) := Blk.new V2 #[.int .u8 0, .int .u8 0, .int .u8 0, .int .u8 0, .int .u8 0, .int .u8 0, .int .u8 0, .int .u8 0, .int .u8 0, .int .u8 0, .int .u8 0, .int .u8 0, .int .u8 0, .int .u8 0, .int .u8 0, .int .u8 0, .int .u8 0, .int .u8 0, .int .u8 0, .int .u8 0, .int .u8 0, .int .u8 0, .int .u8 0, .int .u8 0, .int .u8 0, .int .u8 0, .int .u8 0, .int .u8 0, .int .u8 0, .int .u8 0, .int .u8 0, .int .u8 0] 27
          go_simp
          refine hK.out _ _ trivial ?_
          clear hK K
          try simp only [Act.put, List.setIfInBounds_toArray, List.set_cons_zero, List.set_cons_succ]
          obtain ⟨p8, hp8⟩ : ∃ p, p = V2.heap.size := ⟨_, rfl⟩
          have HP8 : Hid (w2.heap.size ≤ p8) := (show _ ≤ _ by rw [hp8]; exact fb.size)
          rw [← hp8] at b8 ⊢
          clear hp8
          generalize V2.alloc (.cells #[.int .u8 0, .int .u8 0, .int .u8 0, .int .u8 0, .int .u8 0, .int .u8 0, .int .u8 0, .int .u8 0, .int .u8 0, .int .u8 0, .int .u8 0, .int .u8 0, .int .u8 0, .int .u8 0, .int .u8 0, .int .u8 0, .int .u8 0, .int .u8 0, .int .u8 0, .int .u8 0, .int .u8 0, .int .u8 0, .int .u8 0, .int .u8 0, .int .u8 0, .int .u8 0, .int .u8 0, .int .u8 0, .int .u8 0, .int .u8 0, .int .u8 0, .int .u8 0] 27) = V3 at *
          replace fb := fb.trans (hb.mono fb.size)
          clear hb
          refine wpP_one ?_
          refine wpP_loud rfl (by rfl) ?_
          intro K hK
          have hb : Below V3.heap.size V3 (V3.alloc (.cells #[.int .u8 0, .int .u8 0, .int .u8 0, .int .u8 0, .int .u8 0, .int .u8 0, .int .u8 0, .int .u8 0, .int .u8 0, .int .u8 0, .int .u8 0, .int .u8 0, .int .u8 0, .int .u8 0, .int .u8 0, .int .u8 0, .int .u8 0, .int .u8 0, .int .u8 0, .int .u8 0, .int .u8 0, .int .u8 0, .int .u8 0, .int .u8 0, .int .u8 0, .int .u8 0, .int .u8 0, .int .u8 0, .int .u8 0, .int .u8 0, .int .u8 0, .int .u8 0] 27)) := (Below.refl _ _).alloc (Nat.le_refl _) _
          have b9 : Blk (V3.alloc (.cells #[.int .u8 0, .int .u8 0, .int .u8 0, .int .u8 0, .int .u8 0, .int .u8 0, .int .u8 0, .int .u8 0, .int .u8 0, .int .u8 0, .int .u8 0, .int .u8 0, .int .u8 0, .int .u8 0, .int .u8 0, .int .u8 0, .int .u8 0, .int .u8 0, .int .u8 0, .int .u8 0, .int .u8 0, .int .u8 0, .int .u8 0, .int .u8 0, .int .u8 0, .int .u8 0, .int .u8 0, .int .u8 0, .int .u8 0, .int .u8 0, .int .u8 0, .int .u8 0] 27)) V3.heap.size 27 (B8 zero32) := Blk.new V3 #[.int .u8 0, .int .u8 0, .int .u8 0, .int .u8 0, .int .u8 0, .int .u8 0, .int .u8 0, .int .u8 0, .int .u8 0, .int .u8 0, .int .u8 0, .int .u8 0, .int .u8 0, .int .u8 0, .int .u8 0, .int .u8 0, .int .u8 0, .int .u8 0, .int .u8 0, .int .u8 0, .int .u8 0, .int .u8 0, .int .u8 0, .int .u8 0, .int .u8 0, .int .u8 0, .int .u8 0, .int .u8 0, .int .u8 0, .int .u8 0, .int .u8 0, .int .u8 0] 27
          go_simp
          refine hK.out _ _ trivial ?_
          clear hK K
          try simp only [Act.put, List.setIfInBounds_toArray, List.set_cons_zero, List.set_cons_succ]
          obtain ⟨p9, hp9⟩ : ∃ p, p = V3.heap.size := ⟨_, rfl⟩
          have HP9 : Hid (w2.heap.size ≤ p9) := (show _ ≤ _ by rw [hp9]; exact fb.size)
          have hne : p8 < p9 := by rw [hp9]; exact b8.lt
          rw [← hp9] at b9 ⊢
          clear hp9
          generalize V3.alloc (.cells #[.int .u8 0, .int .u8 0, .int .u8 0, .int .u8 0, .int .u8 0, .int .u8 0, .int .u8 0, .int .u8 0, .int .u8 0, .int .u8 0, .int .u8 0, .int .u8 0, .int .u8 0, .int .u8 0, .int .u8 0, .int .u8 0, .int .u8 0, .int .u8 0, .int .u8 0, .int .u8 0, .int .u8 0, .int .u8 0, .int .u8 0, .int .u8 0, .int .u8 0, .int .u8 0, .int .u8 0, .int .u8 0, .int .u8 0, .int .u8 0, .int .u8 0, .int .u8 0] 27) = V4 at *
          replace b8 := b8.to hb
          replace fb := fb.trans (hb.mono fb.size)
          clear hb
          refine wpP_one ?_
          refine wpP_loud rfl (by rfl) ?_
          intro K hK
          refine wp_store_fld _ _ _ rfl p8 0 _ _ (B8 sa) rfl _ rfl rfl b8 (by rw [B8_len, HSA.out]; decide) (info_hash HSA.out) (B8_one _) ?_
          intro V5 bn u
          rw [put_all _ _ (by rw [B8_len, HSA.out]; rfl)] at bn
          refine hK.out _ _ trivial ?_
          clear hK K
          try simp only [Act.put, List.setIfInBounds_toArray, List.set_cons_zero, List.set_cons_succ]
          replace b9 := b9.but u (by intro e; injection e; omega)
          clear b8
          have b8 := bn
          clear bn
          replace fb := below_st fb u HP8.out
          clear u
          refine wpP_one ?_
          refine wpP_loud rfl (by rfl) ?_
          intro K hK
          refine wp_store_fld _ _ _ rfl p9 0 _ _ (B8 sb) rfl _ rfl rfl b9 (by rw [B8_len, HSB.out]; decide) (info_hash HSB.out) (B8_one _) ?_
          intro V6 bn u
          rw [put_all _ _ (by rw [B8_len, HSB.out]; rfl)] at bn
          refine hK.out _ _ trivial ?_
          clear hK K
          try simp only [Act.put, List.setIfInBounds_toArray, List.set_cons_zero, List.set_cons_succ]
          replace b8 := b8.but u (by intro e; injection e; omega)
          clear b9
          have b9 := bn
          clear bn
          replace fb := below_st fb u HP9.out
          clear u
          refine wpP_done ?_
          exact ⟨rfl, p8, p9, rfl, b8, b9, fb⟩
        · refine wpP_loud rfl (by rfl) ?_
          intro K hK
          have hb : Below V2.heap.size V2 (V2.alloc (.cells #[.int .u8 0, .int .u8 0, .int .u8 0, .int .u8 0, .int .u8 0, .int .u8 0, .int .u8 0, .int .u8 0, .int .u8 0, .int .u8 0, .int .u8 0, .int .u8 0, .int .u8 0, .int .u8 0, .int .u8 0, .int .u8 0, .int .u8 0, .int .u8 0, .int .u8 0, .int .u8 0, .int .u8 0, .int .u8 0, .int .u8 0, .int .u8 0, .int .u8 0, .int .u8 0, .int .u8 0, .int .u8 0, .int .u8 0, .int .u8 0, .int .u8 0, .int .u8 0] 27)) := (Below.refl _ _).alloc (Nat.le_refl _) _
          have b9 : Blk (V2.alloc (.cells #[.int .u8 0, .int .u8 0, .int .u8 0, .int .u8 0, .int .u8 0, .int .u8 0, .int .u8 0, .int .u8 0, .int .u8 0, .int .u8 0, .int .u8 0, .int .u8 0, .int .u8 0, .int .u8 0, .int .u8 0, .int .u8 0, .int .u8 0, .int .u8 0, .int .u8 0, .int .u8 0, .int .u8 0, .int .u8 0, .int .u8 0, .int .u8 0, .int .u8 0, .int .u8 0, .int .u8 0, .int .u8 0, .int .u8 0, .int .u8 0, .int .u8 0, .int .u8 0] 27)) V2.heap.size 27 (B8 zero32) := Blk.new V2 #[.int .u8 0, .int .u8 0, .int .u8 0, .int .u8 0, .int .u8 0, .int .u8 0, .int .u8 0, .int .u8 0, .int .u8 0, .int .u8 0, .int .u8 0, .int .u8 0, .int .u8 0, .int .u8 0, .int .u8 0, .int .u8 0, .int .u8 0, .int .u8 0, .int .u8 0, .int .u8 0, .int .u8 0, .int .u8 0, .int .u8 0, .int .u8 0, .int .u8 0, .int .u8 0, .int .u8 0, .int .u8 0, .int .u8 0, .int .u8 0, .int .u8 0, .int .u8 0] 27
          go_simp
          refine hK.out _ _ trivial ?_
          clear hK K
          try simp only [Act.put, List.setIfInBounds_toArray, List.set_cons_zero, List.set_cons_succ]
          obtain ⟨p9, hp9⟩ : ∃ p, p = V2.heap.size := ⟨_, rfl⟩
          have HP9 : Hid (w2.heap.size ≤ p9) := (show _ ≤ _ by rw [hp9]; exact fb.size)
          rw [← hp9] at b9 ⊢
          clear hp9
          generalize V2.alloc (.cells #[.int .u8 0, .int .u8 0, .int .u8 0, .int .u8 0, .int .u8 0, .int .u8 0, .int .u8 0, .int .u8 0, .int .u8 0, .int .u8 0, .int .u8 0, .int .u8 0, .int .u8 0, .int .u8 0, .int .u8 0, .int .u8 0, .int .u8 0, .int .u8 0, .int .u8 0, .int .u8 0, .int .u8 0, .int .u8 0, .int .u8 0, .int .u8 0, .int .u8 0, .int .u8 0, .int .u8 0, .int .u8 0, .int .u8 0, .int .u8 0, .int .u8 0, .int .u8 0] 27) = V3 at *
          replace fb := fb.trans (hb.mono fb.size)
          clear hb
          refine wpP_one ?_
          refine wpP_loud rfl (by rfl) ?_
          intro K hK
          have hb : Below V3.heap.size V3 (V3.alloc (.cells #[.int .u8 0, .int .u8 0, .int .u8 0, .int .u8 0, .int .u8 0, .int .u8 0, .int .u8 0, .int .u8 0, .int .u8 0, .int .u8 0, .int .u8 0, .int .u8 0, .int .u8 0, .int .u8 0, .int .u8 0, .int .u8 0, .int .u8 0, .int .u8 0, .int .u8 0, .int .u8 0, .int .u8 0, .int .u8 0, .int .u8 0, .int .u8 0, .int .u8 0, .int .u8 0, .int .u8 0, .int .u8 0, .int .u8 0, .int .u8 0, .int .u8 0, .int .u8 0] 27)) := (Below.refl _ _).alloc (Nat.le_refl _) _
          have b8 : Blk (V3.alloc (.cells #[.int .u8 0, .int .u8 0, .int .u8 0, .int .u8 0, .int .u8 0, .int .u8 0, .int .u8 0, .int .u8 0, .int .u8 0, .int .u8 0, .int .u8 0, .int .u8 0, .int .u8 0, .int .u8 0, .int .u8 0, .int .u8 0, .int .u8 0, .int .u8 0, .int .u8 0, .int .u8 0, .int .u8 0, .int .u8 0, .int .u8 0, .int .u8 0, .int .u8 0, .int .u8 0, .int .u8 0, .int .u8 0, .int .u8 0, .int .u8 0, .int .u8 0, .int .u8 0] 27)) V3.heap.size 27 (B8 zero32) := Blk.new V3 #[.int .u8 0, .int .u8 0, .int .u8 0, .int .u8 0, .int .u8 0, .int .u8 0, .int .u8 0, .int .u8 0, .int .u8 0, .int .u8 0, .int .u8 0, .int .u8 0, .int .u8 0, .int .u8 0, .int .u8 0, .int .u8 0, .int .u8 0, .int .u8 0, .int .u8 0, .int .u8 0, .int .u8 0, .int .u8 0, .int .u8 0, .int .u8 0, .int .u8 0, .int .u8 0, .int .u8 0, .int .u8 0, .int .u8 0, .int .u8 0, .int .u8 0, .int .u8 0] 27
          go_simp
          refine hK.out _ _ trivial ?_
          clear hK K
          try simp only [Act.put, List.setIfInBounds_toArray, List.set_cons_zero, List.set_cons_succ]
          obtain ⟨p8, hp8⟩ : ∃ p, p = V3.heap.size := ⟨_, rfl⟩
          have HP8 : Hid (w2.heap.size ≤ p8) := (show _ ≤ _ by rw [hp8]; exact fb.size)
          have hne : p9 < p8 := by rw [hp8]; exact b9.lt
          rw [← hp8] at b8 ⊢
          clear hp8
          generalize V3.alloc (.cells #[.int .u8 0, .int .u8 0, .int .u8 0, .int .u8 0, .int .u8 0, .int .u8 0, .int .u8 0, .int .u8 0, .int .u8 0, .int .u8 0, .int .u8 0, .int .u8 0, .int .u8 0, .int .u8 0, .int .u8 0, .int .u8 0, .int .u8 0, .int .u8 0, .int .u8 0, .int .u8 0, .int .u8 0, .int .u8 0, .int .u8 0, .int .u8 0, .int .u8 0, .int .u8 0, .int .u8 0, .int .u8 0, .int .u8 0, .int .u8 0, .int .u8 0, .int .u8 0] 27) = V4 at *
          replace b9 := b9.to hb
          replace fb := fb.trans (hb.mono fb.size)
          clear hb
          refine wpP_one ?_
          refine wpP_loud rfl (by rfl) ?_
          intro K hK
          refine wp_store_fld _ _ _ rfl p8 0 _ _ (B8 sa) rfl _ rfl rfl b8 (by rw [B8_len, HSA.out]; decide) (info_hash HSA.out) (B8_one _) ?_
          intro V5 bn u
          rw [put_all _ _ (by rw [B8_len, HSA.out]; rfl)] at bn
          refine hK.out _ _ trivial ?_
          clear hK K
          try simp only [Act.put, List.setIfInBounds_toArray, List.set_cons_zero, List.set_cons_succ]
          replace b9 := b9.but u (by intro e; injection e; omega)
          clear b8
          have b8 := bn
          clear bn
          replace fb := below_st fb u HP8.out
          clear u
          refine wpP_one ?_
          refine wpP_loud rfl (by rfl) ?_
          intro K hK
          refine wp_store_fld _ _ _ rfl p9 0 _ _ (B8 sb) rfl _ rfl rfl b9 (by rw [B8_len, HSB.out]; decide) (info_hash HSB.out) (B8_one _) ?_
          intro V6 bn u
          rw [put_all _ _ (by rw [B8_len, HSB.out]; rfl)] at bn
          refine hK.out _ _ trivial ?_
          clear hK K
          try simp only [Act.put, List.setIfInBounds_toArray, List.set_cons_zero, List.set_cons_succ]
          replace b8 := b8.but u (by intro e; injection e; omega)
          clear b9
          have b9 := bn
          clear bn
          replace fb := below_st fb u HP9.out
          clear u
          refine wpP_done ?_
          exact ⟨rfl, p8, p9, rfl, b8, b9, fb⟩
      · refine wpP_loud rfl (by rfl) ?_
        intro K hK
        have hb : Below V1.heap.size V1 (V1.alloc (.cells #[.int .u8 0, .int .u8 0, .int .u8 0, .int .u8 0, .int .u8 0, .int .u8 0, .int .u8 0, .int .u8 0, .int .u8 0, .int .u8 0, .int .u8 0, .int .u8 0, .int .u8 0, .int .u8 0, .int .u8 0, .int .u8 0, .int .u8 0, .int .u8 0, .int .u8 0, .int .u8 0, .int .u8 0, .int .u8 0, .int .u8 0, .int .u8 0, .int .u8 0, .int .u8 0, .int .u8 0, .int .u8 0, .int .u8 0, .int .u8 0, .int .u8 0, .int .u8 0] 27)) := (Below.refl _ _).alloc (Nat.le_refl _) _
        have b8 : Blk (V1.alloc (.cells #[.int .u8 0, .int .u8 0, .int .u8 0, .int .u8 0, .int .u8 0, .int .u8 0, .int .u8 0, .int .u8 0, .int .u8 0, .int .u8 0, .int .u8 0, .int .u8 0, .int .u8 0, .int .u8 0, .int .u8 0, .int .u8 0, .int .u8 0, .int .u8 0, .int .u8 0, .int .u8 0, .int .u8 0, .int .u8 0, .int .u8 0, .int .u8 0, .int .u8 0, .int .u8 0, .int .u8 0, .int .u8 0, .int .u8 0, .int .u8 0, .int .u8 0, .int .u8 0] 27)) V1.heap.size 27 (B8 zero32) := Blk.new V1 #[.int .u8 0, .int .u8 0, .int .u8 0, .int .u8 0, .int .u8 0, .int .u8 0, .int .u8 0, .int .u8 0, .int .u8 0, .int .u8 0, .int .u8 0, .int .u8 0, .int .u8 0, .int .u8 0, .int .u8 0, .int .u8 0, .int .u8 0, .int .u8 0, .int .u8 0, .int .u8 0, .int .u8 0, .int .u8 0, .int .u8 0, .int .u8 0, .int .u8 0, .int .u8 0, .int .u8 0, .int .u8 0, .int .u8 0, .int .u8 0, .int .u8 0, .int .u8 0] 27
        go_simp
        refine hK.out _ _ trivial ?_
        clear hK K
        try simp only [Act.put, List.setIfInBounds_toArray, List.set_cons_zero, List.set_cons_succ]
        obtain ⟨p8, hp8⟩ : ∃ p, p = V1.heap.size := ⟨_, rfl⟩
        have HP8 : Hid (w2.heap.size ≤ p8) := (show _ ≤ _ by rw [hp8]; exact fb.size)
        rw [← hp8] at b8 ⊢
        clear hp8
        generalize V1.alloc (.cells #[.int .u8 0, .int .u8 0, .int .u8 0, .int .u8 0, .int .u8 0, .int .u8 0, .int .u8 0, .int .u8 0, .int .u8 0, .int .u8 0, .int .u8 0, .int .u8 0, .int .u8 0, .int .u8 0, .int .u8 0, .int .u8 0, .int .u8 0, .int .u8 0, .int .u8 0, .int .u8 0, .int .u8 0, .int .u8 0, .int .u8 0, .int .u8 0, .int .u8 0, .int .u8 0, .int .u8 0, .int .u8 0, .int .u8 0, .int .u8 0, .int .u8 0, .int .u8 0] 27) = V2 at *
        replace fb := fb.trans (hb.mono fb.size)
        clear hb
        refine wpP_two ?_ ?_
        · refine wpP_loud rfl (by rfl) ?_
          intro K hK
          go_simp
          refine (cmt_any _ (N - M) (c2 - M) (L.drop M) V2 (by omega) hle3.out (by omega) HBA.out HBL.out (slb.to fb)).mono ?_
          rintro e V3 ⟨rfl, hb⟩
          rw [ESB.out]
          unfold hv
          refine hK.out _ _ trivial ?_
          clear hK K
          try simp only [Act.put, List.setIfInBounds_toArray, List.set_cons_zero, List.set_cons_succ]
          replace b8 := b8.to hb
          replace fb := fb.trans (hb.mono fb.size)
          clear hb
          refine wpP_one ?_
          refine wpP_loud rfl (by rfl) ?_
          intro K hK
          have hb : Below V3.heap.size V3 (V3.alloc (.cells #[.int .u8 0, .int .u8 0, .int .u8 0, .int .u8 0, .int .u8 0, .int .u8 0, .int .u8 0, .int .u8 0, .int .u8 0, .int .u8 0, .int .u8 0, .int .u8 0, .int .u8 0, .int .u8 0, .int .u8 0, .int .u8 0, .int .u8 0, .int .u8 0, .int .u8 0, .int .u8 0, .int .u8 0, .int .u8 0, .int .u8 0, .int .u8 0, .int .u8 0, .int .u8 0, .int .u8 0, .int .u8 0, .int .u8 0, .int .u8 0, .int .u8 0, .int .u8 0] 27)) := (Below.refl _ _).alloc (Nat.le_refl _) _
          have b9 : Blk (V3.alloc (.cells #[.int .u8 0, .int .u8 0, .int .u8 0, .int .u8 0, .int .u8 0, .int .u8 0, .int .u8 0, .int .u8 0, .int .u8 0, .int .u8 0, .int .u8 0, .int .u8 0, .int .u8 0, .int .u8 0, .int .u8 0, .int .u8 0, .int .u8 0, .int .u8 0, .int .u8 0, .int .u8 0, .int .u8 0, .int .u8 0, .int .u8 0, .int .u8 0, .int .u8 0, .int .u8 0, .int .u8 0, .int .u8 0, .int .u8 0, .int .u8 0, .int .u8 0, .int .u8 0] 27)) V3.heap.size 27 (B8 zero32) := Blk.new V3 #[.int .u8 0, .int .u8 0, .int .u8 0, .int .u8 0, .int .u8 0, .int .u8 0, .int .u8 0, .int .u8 0, .int .u8 0, .int .u8 0, .int .u8 0, .int .u8 0, .int .u8 0, .int .u8 0, .int .u8 0, .int .u8 0, .int .u8 0, .int .u8 0, .int .u8 0, .int .u8 0, .int .u8 0, .int .u8 0, .int .u8 0, .int .u8 0, .int .u8 0, .int .u8 0, .int .u8 0, .int .u8 0, .int .u8 0, .int .u8 0, .int .u8 0, .int .u8 0] 27
          go_simp
          refine hK.out _ _ trivial ?_
          clear hK K
          try simp only [Act.put, List.setIfInBounds_toArray, List.set_cons_zero, List.set_cons_succ]
          obtain ⟨p9, hp9⟩ : ∃ p, p = V3.heap.size := ⟨_, rfl⟩
          have HP9 : Hid (w2.heap.size ≤ p9) := (show _ ≤ _ by rw [hp9]; exact fb.size)
          have hne : p8 < p9 := by rw [hp9]; exact b8.lt
          rw [← hp9] at b9 ⊢
          clear hp9
          generalize V3.alloc (.cells #[.int .u8 0, .int .u8 0, .int .u8 0, .int .u8 0, .int .u8 0, .int .u8 0, .int .u8 0, .int .u8 0, .int .u8 0, .int .u8 0, .int .u8 0, .int .u8 0, .int .u8 0, .int .u8 0, .int .u8 0, .int .u8 0, .int .u8 0, .int .u8 0, .int .u8 0, .int .u8 0, .int .u8 0, .int .u8 0, .int .u8 0, .int .u8 0, .int .u8 0, .int .u8 0, .int .u8 0, .int .u8 0, .int .u8 0, .int .u8 0, .int .u8 0, .int .u8 0] 27) = V4 at *
          replace b8 := b8.to hb
          replace fb := fb.trans (hb.mono fb.size)
          clear hb
          refine wpP_one ?_
          refine wpP_loud rfl (by rfl) ?_
          intro K hK
          refine wp_store_fld _ _ _ rfl p8 0 _ _ (B8 sa) rfl _ rfl rfl b8 (by rw [B8_len, HSA.out]; decide) (info_hash HSA.out) (B8_one _) ?_
          intro V5 bn u
          rw [put_all _ _ (by rw [B8_len, HSA.out]; rfl)] at bn
          refine hK.out _ _ trivial ?_
          clear hK K
          try simp only [Act.put, List.setIfInBounds_toArray, List.set_cons_zero, List.set_cons_succ]
          replace b9 := b9.but u (by intro e; injection e; omega)
          clear b8
          have b8 := bn
          clear bn
          replace fb := below_st fb u HP8.out
          clear u
          refine wpP_one ?_
          refine wpP_loud rfl (by rfl) ?_
          intro K hK
          refine wp_store_fld _ _ _ rfl p9 0 _ _ (B8 sb) rfl _ rfl rfl b9 (by rw [B8_len, HSB.out]; decide) (info_hash HSB.out) (B8_one _) ?_
          intro V6 bn u
          rw [put_all _ _ (by rw [B8_len, HSB.out]; rfl)] at bn
          refine hK.out _ _ trivial ?_
          clear hK K
          try simp only [Act.put, List.setIfInBounds_toArray, List.set_cons_zero, List.set_cons_succ]
          replace b8 := b8.but u (by intro e; injection e; omega)
          clear b9
          have b9 := bn
          clear bn
          replace fb := below_st fb u HP9.out
          clear u
          refine wpP_done ?_
          exact ⟨rfl, p8, p9, rfl, b8, b9, fb⟩
        · refine wpP_loud rfl (by rfl) ?_
          intro K hK
          have hb : Below V2.heap.size V2 (V2.alloc (.cells #[.int .u8 0, .int .u8 0, .int .u8 0, .int .u8 0, .int .u8 0, .int .u8 0, .int .u8 0, .int .u8 0, .int .u8 0, .int .u8 0, .int .u8 0, .int .u8 0, .int .u8 0, .int .u8 0, .int .u8 0, .int .u8 0, .int .u8 0, .int .u8 0, .int .u8 0, .int .u8 0, .int .u8 0, .int .u8 0, .int .u8 0, .int .u8 0, .int .u8 0, .int .u8 0, .int .u8 0, .int .u8 0, .int .u8 0, .int .u8 0, .int .u8 0, .int .u8 0] 27)) := (Below.refl _ _).alloc (Nat.le_refl _) _
          have b9 : Blk (V2.alloc (.cells #[.int .u8 0, .int .u8 0, .int .u8 0, .int .u8 0, .int .u8 0, .int .u8 0, .int .u8 0, .int .u8 0, .int .u8 0, .int .u8 0, .int .u8 0, .int .u8 0, .int .u8 0, .int .u8 0, .int .u8 0, .int .u8 0, .int .u8 0, .int .u8 0, .int .u8 0, .int .u8 0, .int .u8 0, .int .u8 0, .int .u8 0, .int .u8 0, .int .u8 0, .int .u8 0, .int .u8 0, .int .u8 0, .int .u8 0, .int .u8 0, .int .u8 0, .int .u8 0] 27)) V2.heap.size 27 (B8 zero32) := Blk.new V2 #[.int .u8 0, .int .u8 0, .int .u8 0, .int .u8 0, .int .u8 0, .int .u8 0, .int .u8 0, .int .u8 0, .int .u8 0, .int .u8 0, .int .u8 0, .int .u8 0, .int .u8 0, .int .u8 0, .int .u8 0, .int .u8 0, .int .u8 0, .int .u8 0, .int .u8 0, .int .u8 0, .int .u8 0, .int .u8 0, .int .u8 0, .int .u8 0, .int .u8 0, .int .u8 0, .int .u8 0, .int .u8 0, .int .u8 0, .int .u8 0, .int .u8 0, .int .u8 0] 27
          go_simp
          refine hK.out _ _ trivial ?_
          clear hK K
          try simp only [Act.put, List.setIfInBounds_toArray, List.set_cons_zero, List.set_cons_succ]
          obtain ⟨p9, hp9⟩ : ∃ p, p = V2.heap.size := ⟨_, rfl⟩
          have HP9 : Hid (w2.heap.size ≤ p9) := (show _ ≤ _ by rw [hp9]; exact fb.size)
          have hne : p8 < p9 := by rw [hp9]; exact b8.lt
          rw [← hp9] at b9 ⊢
          clear hp9
          generalize V2.alloc (.cells #[.int .u8 0, .int .u8 0, .int .u8 0, .int .u8 0, .int .u8 0, .int .u8 0, .int .u8 0, .int .u8 0, .int .u8 0, .int .u8 0, .int .u8 0, .int .u8 0, .int .u8 0, .int .u8 0, .int .u8 0, .int .u8 0, .int .u8 0, .int .u8 0, .int .u8 0, .int .u8 0, .int .u8 0, .int .u8 0, .int .u8 0, .int .u8 0, .int .u8 0, .int .u8 0, .int .u8 0, .int .u8 0, .int .u8 0, .int .u8 0, .int .u8 0, .int .u8 0] 27) = V3 at *
          replace b8 := b8.to hb
          replace fb := fb.trans (hb.mono fb.size)
          clear hb
          refine wpP_one ?_
          refine wpP_loud rfl (by rfl) ?_
          intro K hK
          go_simp
          refine (cmt_any _ (N - M) (c2 - M) (L.drop M) V3 (by omega) hle3.out (by omega) HBA.out HBL.out (slb.to fb)).mono ?_
          rintro e V4 ⟨rfl, hb⟩
          rw [ESB.out]
          unfold hv
          refine hK.out _ _ trivial ?_
          clear hK K
          try simp only [Act.put, List.setIfInBounds_toArray, List.set_cons_zero, List.set_cons_succ]
          replace b8 := b8.to hb
          replace b9 := b9.to hb
          replace fb := fb.trans (hb.mono fb.size)
          clear hb
          refine wpP_one ?_
          refine wpP_loud rfl (by rfl) ?_
          intro K hK
          refine wp_store_fld _ _ _ rfl p8 0 _ _ (B8 sa) rfl _ rfl rfl b8 (by rw [B8_len, HSA.out]; decide) (info_hash HSA.out) (B8_one _) ?_
          intro V5 bn u
          rw [put_all _ _ (by rw [B8_len, HSA.out]; rfl)] at bn
          refine hK.out _ _ trivial ?_
          clear hK K
          try simp only [Act.put, List.setIfInBounds_toArray, List.set_cons_zero, List.set_cons_succ]
          replace b9 := b9.but u (by intro e; injection e; omega)
          clear b8
          have b8 := bn
          clear bn
          replace fb := below_st fb u HP8.out
          clear u
          refine wpP_one ?_
          refine wpP_loud rfl (by rfl) ?_
          intro K hK
          refine wp_store_fld _ _ _ rfl p9 0 _ _ (B8 sb) rfl _ rfl rfl b9 (by rw [B8_len, HSB.out]; decide) (info_hash HSB.out) (B8_one _) ?_
          intro V6 bn u
          rw [put_all _ _ (by rw [B8_len, HSB.out]; rfl)] at bn
          refine hK.out _ _ trivial ?_
          clear hK K
          try simp only [Act.put, List.setIfInBounds_toArray, List.set_cons_zero, List.set_cons_succ]
          replace b8 := b8.but u (by intro e; injection e; omega)
          clear b9
          have b9 := bn
          clear bn
          replace fb := below_st fb u HP9.out
          clear u
          refine wpP_done ?_
          exact ⟨rfl, p8, p9, rfl, b8, b9, fb⟩
      · refine wpP_loud rfl (by rfl) ?_
        intro K hK
        have hb : Below V1.heap.size V1 (V1.alloc (.cells #[.int .u8 0, .int .u8 0, .int .u8 0, .int .u8 0, .int .u8 0, .int .u8 0, .int .u8 0, .int .u8 0, .int .u8 0, .int .u8 0, .int .u8 0, .int .u8 0, .int .u8 0, .int .u8 0, .int .u8 0, .int .u8 0, .int .u8 0, .int .u8 0, .int .u8 0, .int .u8 0, .int .u8 0, .int .u8 0, .int .u8 0, .int .u8 0, .int .u8 0, .int .u8 0, .int .u8 0, .int .u8 0, .int .u8 0, .int .u8 0, .int .u8 0, .int .u8 0] 27)) := (Below.refl _ _).alloc (Nat.le_refl _) _
        have b9 : Blk (V1.alloc (.cells #[.int .u8 0, .int .u8 0, .int .u8 0, .int .u8 0, .int .u8 0, .int .u8 0, .int .u8 0, .int .u8 0, .int .u8 0, .int .u8 0, .int .u8 0, .int .u8 0, .int .u8 0, .int .u8 0, .int .u8 0, .int .u8 0, .int .u8 0, .int .u8 0, .int .u8 0, .int .u8 0, .int .u8 0, .int .u8 0, .int .u8 0, .int .u8 0, .int .u8 0, .int .u8 0, .int .u8 0, .int .u8 0, .int .u8 0, .int .u8 0, .int .u8 0, .int .u8 0] 27)) V1.heap.size 27 (B8 zero32) := Blk.new V1 #[.int .u8 0, .int .u8 0, .int .u8 0, .int .u8 0, .int .u8 0, .int .u8 0, .int .u8 0, .int .u8 0, .int .u8 0, .int .u8 0, .int .u8 0, .int .u8 0, .int .u8 0, .int .u8 0, .int .u8 0, .int .u8 0, .int .u8 0, .int .u8 0, .int .u8 0, .int .u8 0, .int .u8 0, .int .u8 0, .int .u8 0, .int .u8 0, .int .u8 0, .int .u8 0, .int .u8 0, .int .u8 0, .int .u8 0, .int .u8 0, .int .u8 0, .int .u8 0] 27
        go_simp
        refine hK.out _ _ trivial ?_
        clear hK K
        try simp only [Act.put, List.setIfInBounds_toArray, List.set_cons_zero, List.set_cons_succ]
        obtain ⟨p9, hp9⟩ : ∃ p, p = V1.heap.size := ⟨_, rfl⟩
        have HP9 : Hid (w2.heap.size ≤ p9) := (show _ ≤ _ by rw [hp9]; exact fb.size)
        rw [← hp9] at b9 ⊢
        clear hp9
        generalize V1.alloc (.cells #[.int .u8 0, .int .u8 0, .int .u8 0, .int .u8 0, .int .u8 0, .int .u8 0, .int .u8 0, .int .u8 0, .int .u8 0, .int .u8 0, .int .u8 0, .int .u8 0, .int .u8 0, .int .u8 0, .int .u8 0, .int .u8 0, .int .u8 0, .int .u8 0, .int .u8 0, .int .u8 0, .int .u8 0, .int .u8 0, .int .u8 0, .int .u8 0, .int .u8 0, .int .u8 0, .int .u8 0, .int .u8 0, .int .u8 0, .int .u8 0, .int .u8 0, .int .u8 0] 27) = V2 at *
        replace fb := fb.trans (hb.mono fb.size)
        clear hb
        refine wpP_two ?_ ?_
        · refine wpP_loud rfl (by rfl) ?_
          intro K hK
          go_simp
          refine (cmt_any _ (N - M) (c2 - M) (L.drop M) V2 (by omega) hle3.out (by omega) HBA.out HBL.out (slb.to fb)).mono ?_
          rintro e V3 ⟨rfl, hb⟩
          rw [ESB.out]
          unfold hv
          refine hK.out _ _ trivial ?_
          clear hK K
          try simp only [Act.put, List.setIfInBounds_toArray, List.set_cons_zero, List.set_cons_succ]
          replace b9 := b9.to hb
          replace fb := fb.trans (hb.mono fb.size)
          clear hb
          refine wpP_one ?_
          refine wpP_loud rfl (by rfl) ?_
          intro K hK
          have hb : Below V3.heap.size V3 (V3.alloc (.cells #[.int .u8 0, .int .u8 0, .int .u8 0, .int .u8 0, .int .u8 0, .int .u8 0, .int .u8 0, .int .u8 0, .int .u8 0, .int .u8 0, .int .u8 0, .int .u8 0, .int .u8 0, .int .u8 0, .int .u8 0, .int .u8 0, .int .u8 0, .int .u8 0, .int .u8 0, .int .u8 0, .int .u8 0, .int .u8 0, .int .u8 0, .int .u8 0, .int .u8 0, .int .u8 0, .int .u8 0, .int .u8 0, .int .u8 0, .int .u8 0, .int .u8 0, .int .u8 0] 27)) := (Below.refl _ _).alloc (Nat.le_refl _) _
          have b8 : Blk (V3.alloc (.cells #[.int .u8 0, .int .u8 0, .int .u8 0, .int .u8 0, .int .u8 0, .int .u8 0, .int .u8 0, .int .u8 0, .int .u8 0, .int .u8 0, .int .u8 0, .int .u8 0, .int .u8 0, .int .u8 0, .int .u8 0, .int .u8 0, .int .u8 0, .int .u8 0, .int .u8 0, .int .u8 0, .int .u8 0, .int .u8 0, .int .u8 0, .int .u8 0, .int .u8 0, .int .u8 0, .int .u8 0, .int .u8 0, .int .u8 0, .int .u8 0, .int .u8 0, .int .u8 0] 27)) V3.heap.size 27 (B8 zero32) := Blk.new V3 #[.int .u8 0, .int .u8 0, .int .u8 0, .int .u8 0, .int .u8 0, .int .u8 0, .int .u8 0, .int .u8 0, .int .u8 0, .int .u8 0, .int .u8 0, .int .u8 0, .int .u8 0, .int .u8 0, .int .u8 0, .int .u8 0, .int .u8 0, .int .u8 0, .int .u8 0, .int .u8 0, .int .u8 0, .int .u8 0, .int .u8 0, .int .u8 0, .int .u8 0, .int .u8 0, .int .u8 0, .int .u8 0, .int .u8 0, .int .u8 0, .int .u8 0, .int .u8 0] 27
          go_simp
          refine hK.out _ _ trivial ?_
          clear hK K
          try simp only [Act.put, List.setIfInBounds_toArray, List.set_cons_zero, List.set_cons_succ]
          obtain ⟨p8, hp8⟩ : ∃ p, p = V3.heap.size := ⟨_, rfl⟩
          have HP8 : Hid (w2.heap.size ≤ p8) := (show _ ≤ _ by rw [hp8]; exact fb.size)
          have hne : p9 < p8 := by rw [hp8]; exact b9.lt
          rw [← hp8] at b8 ⊢
          clear hp8
          generalize V3.alloc (.cells #[.int .u8 0, .int .u8 0, .int .u8 0, .int .u8 0, .int .u8 0, .int .u8 0, .int .u8 0, .int .u8 0, .int .u8 0, .int .u8 0, .int .u8 0, .int .u8 0, .int .u8 0, .int .u8 0, .int .u8 0, .int .u8 0, .int .u8 0, .int .u8 0, .int .u8 0, .int .u8 0, .int .u8 0, .int .u8 0, .int .u8 0, .int .u8 0, .int .u8 0, .int .u8 0, .int .u8 0, .int .u8 0, .int .u8 0, .int .u8 0, .int .u8 0, .int .u8 0] 27) = V4 at *
          replace b9 := b9.to hb
          replace fb := fb.trans (hb.mono fb.size)
          clear hb
          refine wpP_one ?_
          refine wpP_loud rfl (by rfl) ?_
          intro K hK
          refine wp_store_fld _ _ _ rfl p8 0 _ _ (B8 sa) rfl _ rfl rfl b8 (by rw [B8_len, HSA.out]; decide) (info_hash HSA.out) (B8_one _) ?_
          intro V5 bn u
          rw [put_all _ _ (by rw [B8_len, HSA.out]; rfl)] at bn
          refine hK.out _ _ trivial ?_
          clear hK K
          try simp only [Act.put, List.setIfInBounds_toArray, List.set_cons_zero, List.set_cons_succ]
          replace b9 := b9.but u (by intro e; injection e; omega)
          clear b8
          have b8 := bn
          clear bn
          replace fb := below_st fb u HP8.out
          clear u
          refine wpP_one ?_
          refine wpP_loud rfl (by rfl) ?_
          intro K hK
          refine wp_store_fld _ _ _ rfl p9 0 _ _ (B8 sb) rfl _ rfl rfl b9 (by rw [B8_len, HSB.out]; decide) (info_hash HSB.out) (B8_one _) ?_
          intro V6 bn u
          rw [put_all _ _ (by rw [B8_len, HSB.out]; rfl)] at bn
          refine hK.out _ _ trivial ?_
          clear hK K
          try simp only [Act.put, List.setIfInBounds_toArray, List.set_cons_zero, List.set_cons_succ]
          replace b8 := b8.but u (by intro e; injection e; omega)
          clear b9
          have b9 := bn
          clear bn
          replace fb := below_st fb u HP9.out
          clear u
          refine wpP_done ?_
          exact ⟨rfl, p8, p9, rfl, b8, b9, fb⟩
        · refine wpP_loud rfl (by rfl) ?_
          intro K hK
          have hb : Below V2.heap.size V2 (V2.alloc (.cells #[.int .u8 0, .int .u8 0, .int .u8 0, .int .u8 0, .int .u8 0, .int .u8 0, .int .u8 0, .int .u8 0, .int .u8 0, .int .u8 0, .int .u8 0, .int .u8 0, .int .u8 0, .int .u8 0, .int .u8 0, .int .u8 0, .int .u8 0, .int .u8 0, .int .u8 0, .int .u8 0, .int .u8 0, .int .u8 0, .int .u8 0, .int .u8 0, .int .u8 0, .int .u8 0, .int .u8 0, .int .u8 0, .int .u8 0, .int .u8 0, .int .u8 0, .int .u8 0] 27)) := (Below.refl _ _).alloc (Nat.le_refl _) _
          have b8 : Blk (V2.alloc (.cells #[.int .u8 0, .int .u8 0, .int .u8 0, .int .u8 0, .int .u8 0, .int .u8 0, .int .u8 0, .int .u8 0, .int .u8 0, .int .u8 0, .int .u8 0, .int .u8 0, .int .u8 0, .int .u8 0, .int .u8 0, .int .u8 0, .int .u8 0, .int .u8 0, .int .u8 0, .int .u8 0, .int .u8 0, .int .u8 0, .int .u8 0, .int .u8 0, .int .u8 0, .int .u8 0, .int .u8 0, .int .u8 0, .int .u8 0, .int .u8 0, .int .u8 0, .int .u8 0] 27)) V2.heap.size 27 (B8 zero32) := Blk.new V2 #[.int .u8 0, .int .u8 0, .int .u8 0, .int .u8 0, .int .u8 0, .int .u8 0, .int .u8 0, .int .u8 0, .int .u8 0, .int .u8 0, .int .u8 0, .int .u8 0, .int .u8 0, .int .u8 0, .int .u8 0, .int .u8 0, .int .u8 0, .int .u8 0, .int .u8 0, .int .u8 0, .int .u8 0, .int .u8 0, .int .u8 0, .int .u8 0, .int .u8 0, .int .u8 0, .int .u8 0, .int .u8 0, .int .u8 0, .int .u8 0, .int .u8 0, .int .u8 0] 27
          go_simp
          refine hK.out _ _ trivial ?_
          clear hK K
          try simp only [Act.put, List.setIfInBounds_toArray, List.set_cons_zero, List.set_cons_succ]
          obtain ⟨p8, hp8⟩ : ∃ p, p = V2.heap.size := ⟨_, rfl⟩
          have HP8 : Hid (w2.heap.size ≤ p8) := (show _ ≤ _ by rw [hp8]; exact fb.size)
          have hne : p9 < p8 := by rw [hp8]; exact b9.lt
          rw [← hp8] at b8 ⊢
          clear hp8
          generalize V2.alloc (.cells #[.int .u8 0, .int .u8 0, .int .u8 0, .int .u8 0, .int .u8 0, .int .u8 0, .int .u8 0, .int .u8 0, .int .u8 0, .int .u8 0, .int .u8 0, .int .u8 0, .int .u8 0, .int .u8 0, .int .u8 0, .int .u8 0, .int .u8 0, .int .u8 0, .int .u8 0, .int .u8 0, .int .u8 0, .int .u8 0, .int .u8 0, .int .u8 0, .int .u8 0, .int .u8 0, .int .u8 0, .int .u8 0, .int .u8 0, .int .u8 0, .int .u8 0, .int .u8 0] 27) = V3 at *
          replace b9 := b9.to hb
          replace fb := fb.trans (hb.mono fb.size)
          clear hb
          refine wpP_one ?_
          refine wpP_loud rfl (by rfl) ?_
          intro K hK
          go_simp
          refine (cmt_any _ (N - M) (c2 - M) (L.drop M) V3 (by omega) hle3.out (by omega) HBA.out HBL.out (slb.to fb)).mono ?_
          rintro e V4 ⟨rfl, hb⟩
          rw [ESB.out]
          unfold hv
          refine hK.out _ _ trivial ?_
          clear hK K
          try simp only [Act.put, List.setIfInBounds_toArray, List.set_cons_zero, List.set_cons_succ]
          replace b8 := b8.to hb
          replace b9 := b9.to hb
          replace fb := fb.trans (hb.mono fb.size)
          clear hb
          refine wpP_one ?_
          refine wpP_loud rfl (by rfl) ?_
          intro K hK
          refine wp_store_fld _ _ _ rfl p8 0 _ _ (B8 sa) rfl _ rfl rfl b8 (by rw [B8_len, HSA.out]; decide) (info_hash HSA.out) (B8_one _) ?_
          intro V5 bn u
          rw [put_all _ _ (by rw [B8_len, HSA.out]; rfl)] at bn
          refine hK.out _ _ trivial ?_
          clear hK K
          try simp only [Act.put, List.setIfInBounds_toArray, List.set_cons_zero, List.set_cons_succ]
          replace b9 := b9.but u (by intro e; injection e; omega)
          clear b8
          have b8 := bn
          clear bn
          replace fb := below_st fb u HP8.out
          clear u
          refine wpP_one ?_
          refine wpP_loud rfl (by rfl) ?_
          intro K hK
          refine wp_store_fld _ _ _ rfl p9 0 _ _ (B8 sb) rfl _ rfl rfl b9 (by rw [B8_len, HSB.out]; decide) (info_hash HSB.out) (B8_one _) ?_
          intro V6 bn u
          rw [put_all _ _ (by rw [B8_len, HSB.out]; rfl)] at bn
          refine hK.out _ _ trivial ?_
          clear hK K
          try simp only [Act.put, List.setIfInBounds_toArray, List.set_cons_zero, List.set_cons_succ]
          replace b8 := b8.but u (by intro e; injection e; omega)
          clear b9
          have b9 := bn
          clear bn
          replace fb := below_st fb u HP9.out
          clear u
          refine wpP_done ?_
          exact ⟨rfl, p8, p9, rfl, b8, b9, fb⟩
    · refine wpP_loud rfl (by rfl) ?_
      intro K hK
      have hb : Below V0.heap.size V0 (V0.alloc (.cells #[.int .u8 0, .int .u8 0, .int .u8 0, .int .u8 0, .int .u8 0, .int .u8 0, .int .u8 0, .int .u8 0, .int .u8 0, .int .u8 0, .int .u8 0, .int .u8 0, .int .u8 0, .int .u8 0, .int .u8 0, .int .u8 0, .int .u8 0, .int .u8 0, .int .u8 0, .int .u8 0, .int .u8 0, .int .u8 0, .int .u8 0, .int .u8 0, .int .u8 0, .int .u8 0, .int .u8 0, .int .u8 0, .int .u8 0, .int .u8 0, .int .u8 0, .int .u8 0] 27)) := (Below.refl _ _).alloc (Nat.le_refl _) _
      have b8 : Blk (V0.alloc (.cells #[.int .u8 0, .int .u8 0, .int .u8 0, .int .u8 0, .int .u8 0, .int .u8 0, .int .u8 0, .int .u8 0, .int .u8 0, .int .u8 0, .int .u8 0, .int .u8 0, .int .u8 0, .int .u8 0, .int .u8 0, .int .u8 0, .int .u8 0, .int .u8 0, .int .u8 0, .int .u8 0, .int .u8 0, .int .u8 0, .int .u8 0, .int .u8 0, .int .u8 0, .int .u8 0, .int .u8 0, .int .u8 0, .int .u8 0, .int .u8 0, .int .u8 0, .int .u8 0] 27)) V0.heap.size 27 (B8 zero32) := Blk.new V0 #[.int .u8 0, .int .u8 0, .int .u8 0, .int .u8 0, .int .u8 0, .int .u8 0, .int .u8 0, .int .u8 0, .int .u8 0, .int .u8 0, .int .u8 0, .int .u8 0, .int .u8 0, .int .u8 0, .int .u8 0, .int .u8 0, .int .u8 0, .int .u8 0, .int .u8 0, .int .u8 0, .int .u8 0, .int .u8 0, .int .u8 0, .int .u8 0, .int .u8 0, .int .u8 0, .int .u8 0, .int .u8 0, .int .u8 0, .int .u8 0, .int .u8 0, .int .u8 0] 27
      go_simp
      refine hK.out _ _ trivial ?_
      clear hK K
      try simp only [Act.put, List.setIfInBounds_toArray, List.set_cons_zero, List.set_cons_succ]
      obtain ⟨p8, hp8⟩ : ∃ p, p = V0.heap.size := ⟨_, rfl⟩
      have HP8 : Hid (w2.heap.size ≤ p8) := (show _ ≤ _ by rw [hp8]; exact fb.size)
      rw [← hp8] at b8 ⊢
      clear hp8
      generalize V0.alloc (.cells #[.int .u8 0, .int .u8 0, .int .u8 0, .int .u8 0, .int .u8 0, .int .u8 0, .int .u8 0, .int .u8 0, .int .u8 0, .int .u8 0, .int .u8 0, .int .u8 0, .int .u8 0, .int .u8 0, .int .u8 0, .int .u8 0, .int .u8 0, .int .u8 0, .int .u8 0, .int .u8 0, .int .u8 0, .int .u8 0, .int .u8 0, .int .u8 0, .int .u8 0, .int .u8 0, .int .u8 0, .int .u8 0, .int .u8 0, .int .u8 0, .int .u8 0, .int .u8 0] 27) = V1 at *
      replace fb := fb.trans (hb.mono fb.size)
      clear hb
      refine wpP_two ?_ ?_
      · refine wpP_loud rfl (by rfl) ?_
        intro K hK
        go_simp
        refine (cmt_any _ M c2 (L.take M) V1 (by omega) hle4.out (by omega) HFA.out HFL.out (slf.to fb)).mono ?_
        rintro e V2 ⟨rfl, hb⟩
        rw [ESA.out]
        unfold hv
        refine hK.out _ _ trivial ?_
        clear hK K
        try simp only [Act.put, List.setIfInBounds_toArray, List.set_cons_zero, List.set_cons_succ]
        replace b8 := b8.to hb
        replace fb := fb.trans (hb.mono fb.size)
        clear hb
        refine wpP_two ?_ ?_
        · refine wpP_loud rfl (by rfl) ?_
          intro K hK
          go_simp
          refine (cmt_any _ (N - M) (c2 - M) (L.drop M) V2 (by omega) hle3.out (by omega) HBA.out HBL.out (slb.to fb)).mono ?_
          rintro e V3 ⟨rfl, hb⟩
          rw [ESB.out]
          unfold hv
          refine hK.out _ _ trivial ?_
          clear hK K
          try simp only [Act.put, List.setIfInBounds_toArray, List.set_cons_zero, List.set_cons_succ]
          replace b8 := b8.to hb
          replace fb := fb.trans (hb.mono fb.size)
          clear hb
          refine wpP_one ?_
          refine wpP_loud rfl (by rfl) ?_
          intro K hK
          have hb : Below V3.heap.size V3 (V3.alloc (.cells #[.int .u8 0, .int .u8 0, .int .u8 0, .int .u8 0, .int .u8 0, .int .u8 0, .int .u8 0, .int .u8 0, .int .u8 0, .int .u8 0, .int .u8 0, .int .u8 0, .int .u8 0, .int .u8 0, .int .u8 0, .int .u8 0, .int .u8 0, .int .u8 0, .int .u8 0, .int .u8 0, .int .u8 0, .int .u8 0, .int .u8 0, .int .u8 0, .int .u8 0, .int .u8 0, .int .u8 0, .int .u8 0, .int .u8 0, .int .u8 0, .int .u8 0, .int .u8 0] 27)) := (Below.refl _ _).alloc (Nat.le_refl _) _
          have b9 : Blk (V3.alloc (.cells #[.int .u8 0, .int .u8 0, .int .u8 0, .int .u8 0, .int .u8 0, .int .u8 0, .int .u8 0, .int .u8 0, .int .u8 0, .int .u8 0, .int .u8 0, .int .u8 0, .int .u8 0, .int .u8 0, .int .u8 0, .int .u8 0, .int .u8 0, .int .u8 0, .int .u8 0, .int .u8 0, .int .u8 0, .int .u8 0, .int .u8 0, .int .u8 0, .int .u8 0, .int .u8 0, .int .u8 0, .int .u8 0, .int .u8 0, .int .u8 0, .int .u8 0, .int .u8 0] 27)) V3.heap.size 27 (B8 zero32) := Blk.new V3 #[.int .u8 0, .int .u8 0, .int .u8 0, .int .u8 0, .int .u8 0, .int .u8 0, .int .u8 0, .int .u8 0, .int .u8 0, .int .u8 0, .int .u8 0, .int .u8 0, .int .u8 0, .int .u8 0, .int .u8 0, .int .u8 0, .int .u8 0, .int .u8 0, .int .u8 0, .int .u8 0, .int .u8 0, .int .u8 0, .int .u8 0, .int .u8 0, .int .u8 0, .int .u8 0, .int .u8 0, .int .u8 0, .int .u8 0, .int .u8 0, .int .u8 0, .int .u8 0] 27
          go_simp
          refine hK.out _ _ trivial ?_
          clear hK K
          try simp only [Act.put, List.setIfInBounds_toArray, List.set_cons_zero, List.set_cons_succ]
          obtain ⟨p9, hp9⟩ : ∃ p, p = V3.heap.size := ⟨_, rfl⟩
          have HP9 : Hid (w2.heap.size ≤ p9) := (show _ ≤ _ by rw [hp9]; exact fb.size)
          have hne : p8 < p9 := by rw [hp9]; exact b8.lt
          rw [← hp9] at b9 ⊢
          clear hp9
          generalize V3.alloc (.cells #[.int .u8 0, .int .u8 0, .int .u8 0, .int .u8 0, .int .u8 0, .int .u8 0, .int .u8 0, .int .u8 0, .int .u8 0, .int .u8 0, .int .u8 0, .int .u8 0, .int .u8 0, .int .u8 0, .int .u8 0, .int .u8 0, .int .u8 0, .int .u8 0, .int .u8 0, .int .u8 0, .int .u8 0, .int .u8 0, .int .u8 0, .int .u8 0, .int .u8 0, .int .u8 0, .int .u8 0, .int .u8 0, .int .u8 0, .int .u8 0, .int .u8 0, .int .u8 0] 27) = V4 at *
          replace b8 := b8.to hb
          replace fb := fb.trans (hb.mono fb.size)
          clear hb
          refine wpP_one ?_
          refine wpP_loud rfl (by rfl) ?_
          intro K hK
          refine wp_store_fld _ _ _ rfl p8 0 _ _ (B8 sa) rfl _ rfl rfl b8 (by rw [B8_len, HSA.out]; decide) (info_hash HSA.out) (B8_one _) ?_
          intro V5 bn u
          rw [put_all _ _ (by rw [B8_len, HSA.out]; rfl)] at bn
          refine hK.out _ _ trivial ?_
          clear hK K
          try simp only [Act.put, List.setIfInBounds_toArray, List.set_cons_zero, List.set_cons_succ]
          replace b9 := b9.but u (by intro e; injection e; omega)
          clear b8
          have b8 := bn
          clear bn
          replace fb := below_st fb u HP8.out
          clear u
          refine wpP_one ?_
          refine wpP_loud rfl (by rfl) ?_
          intro K hK
          refine wp_store_fld _ _ _ rfl p9 0 _ _ (B8 sb) rfl _ rfl rfl b9 (by rw [B8_len, HSB.out]; decide) (info_hash HSB.out) (B8_one _) ?_
          intro V6 bn u
          rw [put_all _ _ (by rw [B8_len, HSB.out]; rfl)] at bn
          refine hK.out _ _ trivial ?_
          clear hK K
          try simp only [Act.put, List.setIfInBounds_toArray, List.set_cons_zero, List.set_cons_succ]
          replace b8 := b8.but u (by intro e; injection e; omega)
          clear b9
          have b9 := bn
          clear bn
          replace fb := below_st fb u HP9.out
          clear u
          refine wpP_done ?_
          exact ⟨rfl, p8, p9, rfl, b8, b9, fb⟩
        · refine wpP_loud rfl (by rfl) ?_
          intro K hK
          have hb : Below V2.heap.size V2 (V2.alloc (.cells #[.int .u8 0, .int .u8 0, .int .u8 0, .int .u8 0, .int .u8 0, .int .u8 0, .int .u8 0, .int .u8 0, .int .u8 0, .int .u8 0, .int .u8 0, .int .u8 0, .int .u8 0, .int .u8 0, .int .u8 0, .int .u8 0, .int .u8 0, .int .u8 0, .int .u8 0, .int .u8 0, .int .u8 0, .int .u8 0, .int .u8 0, .int .u8 0, .int .u8 0, .int .u8 0, .int .u8 0, .int .u8 0, .int .u8 0, .int .u8 0, .int .u8 0, .int .u8 0] 27)) := (Below.refl _ _).alloc (Nat.le_refl _) _
          have b9 : Blk (V2.alloc (.cells #[.int .u8 0, .int .u8 0, .int .u8 0, .int .u8 0, .int .u8 0, .int .u8 0, .int .u8 0, .int .u8 0, .int .u8 0, .int .u8 0, .int .u8 0, .int .u8 0, .int .u8 0, .int .u8 0, .int .u8 0, .int .u8 0, .int .u8 0, .int .u8 0, .int .u8 0, .int .u8 0, .int .u8 0, .int .u8 0, .int .u8 0, .int .u8 0, .int .u8 0, .int .u8 0, .int .u8 0, .int .u8 0, .int .u8 0, .int .u8 0, .int .u8 0, .int .u8 0] 27)) V2.heap.size 27 (B8 zero32) := Blk.new V2 #[.int .u8 0, .int .u8 0, .int .u8 0, .int .u8 0, .int .u8 0, .int .u8 0, .int .u8 0, .int .u8 0, .int .u8 0, .int .u8 0, .int .u8 0, .int .u8 0, .int .u8 0, .int .u8 0, .int .u8 0, .int .u8 0, .int .u8 0, .int .u8 0, .int .u8 0, .int .u8 0, .int .u8 0, .int .u8 0, .int .u8 0, .int .u8 0, .int .u8 0, .int .u8 0, .int .u8 0, .int .u8 0, .int .u8 0, .int .u8 0, .int .u8 0, .int .u8 0] 27
          go_simp
          refine hK.out _ _ trivial ?_
          clear hK K
          try simp only [Act.put, List.setIfInBounds_toArray, List.set_cons_zero, List.set_cons_succ]
          obtain ⟨p9, hp9⟩ : ∃ p, p = V2.heap.size := ⟨_, rfl⟩
          have HP9 : Hid (w2.heap.size ≤ p9) := (show _ ≤ _ by rw [hp9]; exact fb.size)
          have hne : p8 < p9 := by rw [hp9]; exact b8.lt
          rw [← hp9] at b9 ⊢
          clear hp9
          generalize V2.alloc (.cells #[.int .u8 0, .int .u8 0, .int .u8 0, .int .u8 0, .int .u8 0, .int .u8 0, .int .u8 0, .int .u8 0, .int .u8 0, .int .u8 0, .int .u8 0, .int .u8 0, .int .u8 0, .int .u8 0, .int .u8 0, .int .u8 0, .int .u8 0, .int .u8 0, .int .u8 0, .int .u8 0, .int .u8 0, .int .u8 0, .int .u8 0, .int .u8 0, .int .u8 0, .int .u8 0, .int .u8 0, .int .u8 0, .int .u8 0, .int .u8 0, .int .u8 0, .int .u8 0] 27) = V3 at *
          replace b8 := b8.to hb
          replace fb := fb.trans (hb.mono fb.size)
          clear hb
          refine wpP_one ?_
          refine wpP_loud rfl (by rfl) ?_
          intro K hK
          go_simp
          refine (cmt_any _ (N - M) (c2 - M) (L.drop M) V3 (by omega) hle3.out (by omega) HBA.out HBL.out (slb.to fb)).mono ?_
          rintro e V4 ⟨rfl, hb⟩
          rw [ESB.out]
          unfold hv
          refine hK.out _ _ trivial ?_
          clear hK K
          try simp only [Act.put, List.setIfInBounds_toArray, List.set_cons_zero, List.set_cons_succ]
          replace b8 := b8.to hb
          replace b9 := b9.to hb
          replace fb := fb.trans (hb.mono fb.size)
          clear hb
          refine wpP_one ?_
          refine wpP_loud rfl (by rfl) ?_
          intro K hK
          refine wp_store_fld _ _ _ rfl p8 0 _ _ (B8 sa) rfl _ rfl rfl b8 (by rw [B8_len, HSA.out]; decide) (info_hash HSA.out) (B8_one _) ?_
          intro V5 bn u
          rw [put_all _ _ (by rw [B8_len, HSA.out]; rfl)] at bn
          refine hK.out _ _ trivial ?_
          clear hK K
          try simp only [Act.put, List.setIfInBounds_toArray, List.set_cons_zero, List.set_cons_succ]
          replace b9 := b9.but u (by intro e; injection e; omega)
          clear b8
          have b8 := bn
          clear bn
          replace fb := below_st fb u HP8.out
          clear u
          refine wpP_one ?_
          refine wpP_loud rfl (by rfl) ?_
          intro K hK
          refine wp_store_fld _ _ _ rfl p9 0 _ _ (B8 sb) rfl _ rfl rfl b9 (by rw [B8_len, HSB.out]; decide) (info_hash HSB.out) (B8_one _) ?_
          intro V6 bn u
          rw [put_all _ _ (by rw [B8_len, HSB.out]; rfl)] at bn
          refine hK.out _ _ trivial ?_
          clear hK K
          try simp only [Act.put, List.setIfInBounds_toArray, List.set_cons_zero, List.set_cons_succ]
          replace b8 := b8.but u (by intro e; injection e; omega)
          clear b9
          have b9 := bn
          clear bn
          replace fb := below_st fb u HP9.out
          clear u
          refine wpP_done ?_
          exact ⟨rfl, p8, p9, rfl, b8, b9, fb⟩
      · refine wpP_loud rfl (by rfl) ?_
        intro K hK
        have hb : Below V1.heap.size V1 (V1.alloc (.cells #[.int .u8 0, .int .u8 0, .int .u8 0, .int .u8 0, .int .u8 0, .int .u8 0, .int .u8 0, .int .u8 0, .int .u8 0, .int .u8 0, .int .u8 0, .int .u8 0, .int .u8 0, .int .u8 0, .int .u8 0, .int .u8 0, .int .u8 0, .int .u8 0, .int .u8 0, .int .u8 0, .int .u8 0, .int .u8 0, .int .u8 0, .int .u8 0, .int .u8 0, .int .u8 0, .int .u8 0, .int .u8 0, .int .u8 0, .int .u8 0, .int .u8 0, .int .u8 0] 27)) := (Below.refl _ _).alloc (Nat.le_refl _) _
        have b9 : Blk (V1.alloc (.cells #[.int .u8 0, .int .u8 0, .int .u8 0, .int .u8 0, .int .u8 0, .int .u8 0, .int .u8 0, .int .u8 0, .int .u8 0, .int .u8 0, .int .u8 0, .int .u8 0, .int .u8 0, .int .u8 0, .int .u8 0, .int .u8 0, .int .u8 0, .int .u8 0, .int .u8 0, .int .u8 0, .int .u8 0, .int .u8 0, .int .u8 0, .int .u8 0, .int .u8 0, .int .u8 0, .int .u8 0, .int .u8 0, .int .u8 0, .int .u8 0, .int .u8 0, .int .u8 0] 27)) V1.heap.size 27 (B8 zero32) := Blk.new V1 #[.int .u8 0, .int .u8 0, .int .u8 0, .int .u8 0, .int .u8 0, .int .u8 0, .int .u8 0, .int .u8 0, .int .u8 0, .int .u8 0, .int .u8 0, .int .u8 0, .int .u8 0, .int .u8 0, .int .u8 0, .int .u8 0, .int .u8 0, .int .u8 0, .int .u8 0, .int .u8 0, .int .u8 0, .int .u8 0, .int .u8 0, .int .u8 0, .int .u8 0, .int .u8 0, .int .u8 0, .int .u8 0, .int .u8 0, .int .u8 0, .int .u8 0, .int .u8 0] 27
        go_simp
        refine hK.out _ _ trivial ?_
        clear hK K
        try simp only [Act.put, List.setIfInBounds_toArray, List.set_cons_zero, List.set_cons_succ]
        obtain ⟨p9, hp9⟩ : ∃ p, p = V1.heap.size := ⟨_, rfl⟩
        have HP9 : Hid (w2.heap.size ≤ p9) := (show _ ≤ _ by rw [hp9]; exact fb.size)
        have hne : p8 < p9 := by rw [hp9]; exact b8.lt
        rw [← hp9] at b9 ⊢
        clear hp9
        generalize V1.alloc (.cells #[.int .u8 0, .int .u8 0, .int .u8 0, .int .u8 0, .int .u8 0, .int .u8 0, .int .u8 0, .int .u8 0, .int .u8 0, .int .u8 0, .int .u8 0, .int .u8 0, .int .u8 0, .int .u8 0, .int .u8 0, .int .u8 0, .int .u8 0, .int .u8 0, .int .u8 0, .int .u8 0, .int .u8 0, .int .u8 0, .int .u8 0, .int .u8 0, .int .u8 0, .int .u8 0, .int .u8 0, .int .u8 0, .int .u8 0, .int .u8 0, .int .u8 0, .int .u8 0] 27) = V2 at *
        replace b8 := b8.to hb
        replace fb := fb.trans (hb.mono fb.size)
        clear hb
        refine wpP_one ?_
        refine wpP_loud rfl (by rfl) ?_
        intro K hK
        go_simp
        refine (cmt_any _ M c2 (L.take M) V2 (by omega) hle4.out (by omega) HFA.out HFL.out (slf.to fb)).mono ?_
        rintro e V3 ⟨rfl, hb⟩
        rw [ESA.out]
        unfold hv
        refine hK.out _ _ trivial ?_
        clear hK K
        try simp only [Act.put, List.setIfInBounds_toArray, List.set_cons_zero, List.set_cons_succ]
        replace b8 := b8.to hb
        replace b9 := b9.to hb
        replace fb := fb.trans (hb.mono fb.size)
        clear hb
        refine wpP_one ?_
        refine wpP_loud rfl (by rfl) ?_
        intro K hK
        go_simp
        refine (cmt_any _ (N - M) (c2 - M) (L.drop M) V3 (by omega) hle3.out (by omega) HBA.out HBL.out (slb.to fb)).mono ?_
        rintro e V4 ⟨rfl, hb⟩
        rw [ESB.out]
        unfold hv
        refine hK.out _ _ trivial ?_
        clear hK K
        try simp only [Act.put, List.setIfInBounds_toArray, List.set_cons_zero, List.set_cons_succ]
        replace b8 := b8.to hb
        replace b9 := b9.to hb
        replace fb := fb.trans (hb.mono fb.size)
        clear hb
        refine wpP_one ?_
        refine wpP_loud rfl (by rfl) ?_
        intro K hK
        refine wp_store_fld _ _ _ rfl p8 0 _ _ (B8 sa) rfl _ rfl rfl b8 (by rw [B8_len, HSA.out]; decide) (info_hash HSA.out) (B8_one _) ?_
        intro V5 bn u
        rw [put_all _ _ (by rw [B8_len, HSA.out]; rfl)] at bn
        refine hK.out _ _ trivial ?_
        clear hK K
        try simp only [Act.put, List.setIfInBounds_toArray, List.set_cons_zero, List.set_cons_succ]
        replace b9 := b9.but u (by intro e; injection e; omega)
        clear b8
        have b8 := bn
        clear bn
        replace fb := below_st fb u HP8.out
        clear u
        refine wpP_one ?_
        refine wpP_loud rfl (by rfl) ?_
        intro K hK
        refine wp_store_fld _ _ _ rfl p9 0 _ _ (B8 sb) rfl _ rfl rfl b9 (by rw [B8_len, HSB.out]; decide) (info_hash HSB.out) (B8_one _) ?_
        intro V6 bn u
        rw [put_all _ _ (by rw [B8_len, HSB.out]; rfl)] at bn
        refine hK.out _ _ trivial ?_
        clear hK K
        try simp only [Act.put, List.setIfInBounds_toArray, List.set_cons_zero, List.set_cons_succ]
        replace b8 := b8.but u (by intro e; injection e; omega)
        clear b9
        have b9 := bn
        clear bn
        replace fb := below_st fb u HP9.out
        clear u
        refine wpP_done ?_
        exact ⟨rfl, p8, p9, rfl, b8, b9, fb⟩
    · refine wpP_loud rfl (by rfl) ?_
      intro K hK
      have hb : Below V0.heap.size V0 (V0.alloc (.cells #[.int .u8 0, .int .u8 0, .int .u8 0, .int .u8 0, .int .u8 0, .int .u8 0, .int .u8 0, .int .u8 0, .int .u8 0, .int .u8 0, .int .u8 0, .int .u8 0, .int .u8 0, .int .u8 0, .int .u8 0, .int .u8 0, .int .u8 0, .int .u8 0, .int .u8 0, .int .u8 0, .int .u8 0, .int .u8 0, .int .u8 0, .int .u8 0, .int .u8 0, .int .u8 0, .int .u8 0, .int .u8 0, .int .u8 0, .int .u8 0, .int .u8 0, .int .u8 0] 27)) := (Below.refl _ _).alloc (Nat.le_refl _) _
      have b9 : Blk (V0.alloc (.cells #[.int .u8 0, .int .u8 0, .int .u8 0, .int .u8 0, .int .u8 0, .int .u8 0, .int .u8 0, .int .u8 0, .int .u8 0, .int .u8 0, .int .u8 0, .int .u8 0, .int .u8 0, .int .u8 0, .int .u8 0, .int .u8 0, .int .u8 0, .int .u8 0, .int .u8 0, .int .u8 0, .int .u8 0, .int .u8 0, .int .u8 0, .int .u8 0, .int .u8 0, .int .u8 0, .int .u8 0, .int .u8 0, .int .u8 0, .int .u8 0, .int .u8 0, .int .u8 0] 27)) V0.heap.size 27 (B8 zero32) := Blk.new V0 #[.int .u8 0, .int .u8 0, .int .u8 0, .int .u8 0, .int .u8 0, .int .u8 0, .int .u8 0, .int .u8 0, .int .u8 0, .int .u8 0, .int .u8 0, .int .u8 0, .int .u8 0, .int .u8 0, .int .u8 0, .int .u8 0, .int .u8 0, .int .u8 0, .int .u8 0, .int .u8 0, .int .u8 0, .int .u8 0, .int .u8 0, .int .u8 0, .int .u8 0, .int .u8 0, .int .u8 0, .int .u8 0, .int .u8 0, .int .u8 0, .int .u8 0, .int .u8 0] 27
      go_simp
      refine hK.out _ _ trivial ?_
      clear hK K
      try simp only [Act.put, List.setIfInBounds_toArray, List.set_cons_zero, List.set_cons_succ]
      obtain ⟨p9, hp9⟩ : ∃ p, p = V0.heap.size := ⟨_, rfl⟩
      have HP9 : Hid (w2.heap.size ≤ p9) := (show _ ≤ _ by rw [hp9]; exact fb.size)
      rw [← hp9] at b9 ⊢
      clear hp9
      generalize V0.alloc (.cells #[.int .u8 0, .int .u8 0, .int .u8 0, .int .u8 0, .int .u8 0, .int .u8 0, .int .u8 0, .int .u8 0, .int .u8 0, .int .u8 0, .int .u8 0, .int .u8 0, .int .u8 0, .int .u8 0, .int .u8 0, .int .u8 0, .int .u8 0, .int .u8 0, .int .u8 0, .int .u8 0, .int .u8 0, .int .u8 0, .int .u8 0, .int .u8 0, .int .u8 0, .int .u8 0, .int .u8 0, .int .u8 0, .int .u8 0, .int .u8 0, .int .u8 0, .int .u8 0] 27) = V1 at *
      replace fb := fb.trans (hb.mono fb.size)
      clear hb
      refine wpP_two ?_ ?_
      · refine wpP_loud rfl (by rfl) ?_
        intro K hK
        go_simp
        refine (cmt_any _ M c2 (L.take M) V1 (by omega) hle4.out (by omega) HFA.out HFL.out (slf.to fb)).mono ?_
        rintro e V2 ⟨rfl, hb⟩
        rw [ESA.out]
        unfold hv
        refine hK.out _ _ trivial ?_
        clear hK K
        try simp only [Act.put, List.setIfInBounds_toArray, List.set_cons_zero, List.set_cons_succ]
        replace b9 := b9.to hb
        replace fb := fb.trans (hb.mono fb.size)
        clear hb
        refine wpP_two ?_ ?_
        · refine wpP_loud rfl (by rfl) ?_
          intro K hK
          go_simp
          refine (cmt_any _ (N - M) (c2 - M) (L.drop M) V2 (by omega) hle3.out (by omega) HBA.out HBL.out (slb.to fb)).mono ?_
          rintro e V3 ⟨rfl, hb⟩
          rw [ESB.out]
          unfold hv
          refine hK.out _ _ trivial ?_
          clear hK K
          try simp only [Act.put, List.setIfInBounds_toArray, List.set_cons_zero, List.set_cons_succ]
          replace b9 := b9.to hb
          replace fb := fb.trans (hb.mono fb.size)
          clear hb
          refine wpP_one ?_
          refine wpP_loud rfl (by rfl) ?_
          intro K hK
          have hb : Below V3.heap.size V3 (V3.alloc (.cells #[.int .u8 0, .int .u8 0, .int .u8 0, .int .u8 0, .int .u8 0, .int .u8 0, .int .u8 0, .int .u8 0, .int .u8 0, .int .u8 0, .int .u8 0, .int .u8 0, .int .u8 0, .int .u8 0, .int .u8 0, .int .u8 0, .int .u8 0, .int .u8 0, .int .u8 0, .int .u8 0, .int .u8 0, .int .u8 0, .int .u8 0, .int .u8 0, .int .u8 0, .int .u8 0, .int .u8 0, .int .u8 0, .int .u8 0, .int .u8 0, .int .u8 0, .int .u8 0] 27)) := (Below.refl _ _).alloc (Nat.le_refl _) _
          have b8 : Blk (V3.alloc (.cells #[.int .u8 0, .int .u8 0, .int .u8 0, .int .u8 0, .int .u8 0, .int .u8 0, .int .u8 0, .int .u8 0, .int .u8 0, .int .u8 0, .int .u8 0, .int .u8 0, .int .u8 0, .int .u8 0, .int .u8 0, .int .u8 0, .int .u8 0, .int .u8 0, .int .u8 0, .int .u8 0, .int .u8 0, .int .u8 0, .int .u8 0, .int .u8 0, .int .u8 0, .int .u8 0, .int .u8 0, .int .u8 0, .int .u8 0, .int .u8 0, .int .u8 0, .int .u8 0] 27)) V3.heap.size 27 (B8 zero32) := Blk.new V3 #[.int .u8 0, .int .u8 0, .int .u8 0, .int .u8 0, .int .u8 0, .int .u8 0, .int .u8 0, .int .u8 0, .int .u8 0, .int .u8 0, .int .u8 0, .int .u8 0, .int .u8 0, .int .u8 0, .int .u8 0, .int .u8 0, .int .u8 0, .int .u8 0, .int .u8 0, .int .u8 0, .int .u8 0, .int .u8 0, .int .u8 0, .int .u8 0, .int .u8 0, .int .u8 0, .int .u8 0, .int .u8 0, .int .u8 0, .int .u8 0, .int .u8 0, .int .u8 0] 27
          go_simp
          refine hK.out _ _ trivial ?_
          clear hK K
          try simp only [Act.put, List.setIfInBounds_toArray, List.set_cons_zero, List.set_cons_succ]
          obtain ⟨p8, hp8⟩ : ∃ p, p = V3.heap.size := ⟨_, rfl⟩
          have HP8 : Hid (w2.heap.size ≤ p8) := (show _ ≤ _ by rw [hp8]; exact fb.size)
          have hne : p9 < p8 := by rw [hp8]; exact b9.lt
          rw [← hp8] at b8 ⊢
          clear hp8
          generalize V3.alloc (.cells #[.int .u8 0, .int .u8 0, .int .u8 0, .int .u8 0, .int .u8 0, .int .u8 0, .int .u8 0, .int .u8 0, .int .u8 0, .int .u8 0, .int .u8 0, .int .u8 0, .int .u8 0, .int .u8 0, .int .u8 0, .int .u8 0, .int .u8 0, .int .u8 0, .int .u8 0, .int .u8 0, .int .u8 0, .int .u8 0, .int .u8 0, .int .u8 0, .int .u8 0, .int .u8 0, .int .u8 0, .int .u8 0, .int .u8 0, .int .u8 0, .int .u8 0, .int .u8 0] 27) = V4 at *
          replace b9 := b9.to hb
          replace fb := fb.trans (hb.mono fb.size)
          clear hb
          refine wpP_one ?_
          refine wpP_loud rfl (by rfl) ?_
          intro K hK
          refine wp_store_fld _ _ _ rfl p8 0 _ _ (B8 sa) rfl _ rfl rfl b8 (by rw [B8_len, HSA.out]; decide) (info_hash HSA.out) (B8_one _) ?_
          intro V5 bn u
          rw [put_all _ _ (by rw [B8_len, HSA.out]; rfl)] at bn
          refine hK.out _ _ trivial ?_
          clear hK K
          try simp only [Act.put, List.setIfInBounds_toArray, List.set_cons_zero, List.set_cons_succ]
          replace b9 := b9.but u (by intro e; injection e; omega)
          clear b8
          have b8 := bn
          clear bn
          replace fb := below_st fb u HP8.out
          clear u
          refine wpP_one ?_
          refine wpP_loud rfl (by rfl) ?_
          intro K hK
          refine wp_store_fld _ _ _ rfl p9 0 _ _ (B8 sb) rfl _ rfl rfl b9 (by rw [B8_len, HSB.out]; decide) (info_hash HSB.out) (B8_one _) ?_
          intro V6 bn u
          rw [put_all _ _ (by rw [B8_len, HSB.out]; rfl)] at bn
          refine hK.out _ _ trivial ?_
          clear hK K
          try simp only [Act.put, List.setIfInBounds_toArray, List.set_cons_zero, List.set_cons_succ]
          replace b8 := b8.but u (by intro e; injection e; omega)
          clear b9
          have b9 := bn
          clear bn
          replace fb := below_st fb u HP9.out
          clear u
          refine wpP_done ?_
          exact ⟨rfl, p8, p9, rfl, b8, b9, fb⟩
        · refine wpP_loud rfl (by rfl) ?_
          intro K hK
          have hb : Below V2.heap.size V2 (V2.alloc (.cells #[.int .u8 0, .int .u8 0, .int .u8 0, .int .u8 0, .int .u8 0, .int .u8 0, .int .u8 0, .int .u8 0, .int .u8 0, .int .u8 0, .int .u8 0, .int .u8 0, .int .u8 0, .int .u8 0, .int .u8 0, .int .u8 0, .int .u8 0, .int .u8 0, .int .u8 0, .int .u8 0, .int .u8 0, .int .u8 0, .int .u8 0, .int .u8 0, .int .u8 0, .int .u8 0, .int .u8 0, .int .u8 0, .int .u8 0, .int .u8 0, .int .u8 0, .int .u8 0] 27)) := (Below.refl _ _).alloc (Nat.le_refl _) _
          have b8 : Blk (V2.alloc (.cells #[.int .u8 0, .int .u8 0, .int .u8 0, .int .u8 0, .int .u8 0, .int .u8 0, .int .u8 0, .int .u8 0, .int .u8 0, .int .u8 0, .int .u8 0, .int .u8 0, .int .u8 0, .int .u8 0, .int .u8 0, .int .u8 0, .int .u8 0, .int .u8 0, .int .u8 0, .int .u8 0, .int .u8 0, .int .u8 0, .int .u8 0, .int .u8 0, .int .u8 0, .int .u8 0, .int .u8 0, .int .u8 0, .int .u8 0, .int .u8 0, .int .u8 0, .int .u8 0] 27)) V2.heap.size 27 (B8 zero32) := Blk.new V2 #[.int .u8 0, .int .u8 0, .int .u8 0, .int .u8 0, .int .u8 0, .int .u8 0, .int .u8 0, .int .u8 0, .int .u8 0, .int .u8 0, .int .u8 0, .int .u8 0, .int .u8 0, .int .u8 0, .int .u8 0, .int .u8 0, .int .u8 0, .int .u8 0, .int .u8 0, .int .u8 0, .int .u8 0, .int .u8 0, .int .u8 0, .int .u8 0, .int .u8 0, .int .u8 0, .int .u8 0, .int .u8 0, .int .u8 0, .int .u8 0, .int .u8 0, .int .u8 0] 27
          go_simp
          refine hK.out _ _ trivial ?_
          clear hK K
          try simp only [Act.put, List.setIfInBounds_toArray, List.set_cons_zero, List.set_cons_succ]
          obtain ⟨p8, hp8⟩ : ∃ p, p = V2.heap.size := ⟨_, rfl⟩
          have HP8 : Hid (w2.heap.size ≤ p8) := (show _ ≤ _ by rw [hp8]; exact fb.size)
          have hne : p9 < p8 := by rw [hp8]; exact b9.lt
          rw [← hp8] at b8 ⊢
          clear hp8
          generalize V2.alloc (.cells #[.int .u8 0, .int .u8 0, .int .u8 0, .int .u8 0, .int .u8 0, .int .u8 0, .int .u8 0, .int .u8 0, .int .u8 0, .int .u8 0, .int .u8 0, .int .u8 0, .int .u8 0, .int .u8 0, .int .u8 0, .int .u8 0, .int .u8 0, .int .u8 0, .int .u8 0, .int .u8 0, .int .u8 0, .int .u8 0, .int .u8 0, .int .u8 0, .int .u8 0, .int .u8 0, .int .u8 0, .int .u8 0, .int .u8 0, .int .u8 0, .int .u8 0, .int .u8 0] 27) = V3 at *
          replace b9 := b9.to hb
          replace fb := fb.trans (hb.mono fb.size)
          clear hb
          refine wpP_one ?_
          refine wpP_loud rfl (by rfl) ?_
          intro K hK
          go_simp
          refine (cmt_any _ (N - M) (c2 - M) (L.drop M) V3 (by omega) hle3.out (by omega) HBA.out HBL.out (slb.to fb)).mono ?_
          rintro e V4 ⟨rfl, hb⟩
          rw [ESB.out]
          unfold hv
          refine hK.out _ _ trivial ?_
          clear hK K
          try simp only [Act.put, List.setIfInBounds_toArray, List.set_cons_zero, List.set_cons_succ]
          replace b8 := b8.to hb
          replace b9 := b9.to hb
          replace fb := fb.trans (hb.mono fb.size)
          clear hb
          refine wpP_one ?_
          refine wpP_loud rfl (by rfl) ?_
          intro K hK
          refine wp_store_fld _ _ _ rfl p8 0 _ _ (B8 sa) rfl _ rfl rfl b8 (by rw [B8_len, HSA.out]; decide) (info_hash HSA.out) (B8_one _) ?_
          intro V5 bn u
          rw [put_all _ _ (by rw [B8_len, HSA.out]; rfl)] at bn
          refine hK.out _ _ trivial ?_
          clear hK K
          try simp only [Act.put, List.setIfInBounds_toArray, List.set_cons_zero, List.set_cons_succ]
          replace b9 := b9.but u (by intro e; injection e; omega)
          clear b8
          have b8 := bn
          clear bn
          replace fb := below_st fb u HP8.out
          clear u
          refine wpP_one ?_
          refine wpP_loud rfl (by rfl) ?_
          intro K hK
          refine wp_store_fld _ _ _ rfl p9 0 _ _ (B8 sb) rfl _ rfl rfl b9 (by rw [B8_len, HSB.out]; decide) (info_hash HSB.out) (B8_one _) ?_
          intro V6 bn u
          rw [put_all _ _ (by rw [B8_len, HSB.out]; rfl)] at bn
          refine hK.out _ _ trivial ?_
          clear hK K
          try simp only [Act.put, List.setIfInBounds_toArray, List.set_cons_zero, List.set_cons_succ]
          replace b8 := b8.but u (by intro e; injection e; omega)
          clear b9
          have b9 := bn
          clear bn
          replace fb := below_st fb u HP9.out
          clear u
          refine wpP_done ?_
          exact ⟨rfl, p8, p9, rfl, b8, b9, fb⟩
      · refine wpP_loud rfl (by rfl) ?_
        intro K hK
        have hb : Below V1.heap.size V1 (V1.alloc (.cells #[.int .u8 0, .int .u8 0, .int .u8 0, .int .u8 0, .int .u8 0, .int .u8 0, .int .u8 0, .int .u8 0, .int .u8 0, .int .u8 0, .int .u8 0, .int .u8 0, .int .u8 0, .int .u8 0, .int .u8 0, .int .u8 0, .int .u8 0, .int .u8 0, .int .u8 0, .int .u8 0, .int .u8 0, .int .u8 0, .int .u8 0, .int .u8 0, .int .u8 0, .int .u8 0, .int .u8 0, .int .u8 0, .int .u8 0, .int .u8 0, .int .u8 0, .int .u8 0] 27)) := (Below.refl _ _).alloc (Nat.le_refl _) _
        have b8 : Blk (V1.alloc (.cells #[.int .u8 0, .int .u8 0, .int .u8 0, .int .u8 0, .int .u8 0, .int .u8 0, .int .u8 0, .int .u8 0, .int .u8 0, .int .u8 0, .int .u8 0, .int .u8 0, .int .u8 0, .int .u8 0, .int .u8 0, .int .u8 0, .int .u8 0, .int .u8 0, .int .u8 0, .int .u8 0, .int .u8 0, .int .u8 0, .int .u8 0, .int .u8 0, .int .u8 0, .int .u8 0, .int .u8 0, .int .u8 0, .int .u8 0, .int .u8 0, .int .u8 0, .int .u8 0] 27)) V1.heap.size 27 (B8 zero32) := Blk.new V1 #[.int .u8 0, .int .u8 0, .int .u8 0, .int .u8 0, .int .u8 0, .int .u8 0, .int .u8 0, .int .u8 0, .int .u8 0, .int .u8 0, .int .u8 0, .int .u8 0, .int .u8 0, .int .u8 0, .int .u8 0, .int .u8 0, .int .u8 0, .int .u8 0, .int .u8 0, .int .u8 0, .int .u8 0, .int .u8 0, .int .u8 0, .int .u8 0, .int .u8 0, .int .u8 0, .int .u8 0, .int .u8 0, .int .u8 0, .int .u8 0, .int .u8 0, .int .u8 0] 27
        go_simp
        refine hK.out _ _ trivial ?_
        clear hK K
        try simp only [Act.put, List.setIfInBounds_toArray, List.set_cons_zero, List.set_cons_succ]
        obtain ⟨p8, hp8⟩ : ∃ p, p = V1.heap.size := ⟨_, rfl⟩
        have HP8 : Hid (w2.heap.size ≤ p8) := (show _ ≤ _ by rw [hp8]; exact fb.size)
        have hne : p9 < p8 := by rw [hp8]; exact b9.lt
        rw [← hp8] at b8 ⊢
        clear hp8
        generalize V1.alloc (.cells #[.int .u8 0, .int .u8 0, .int .u8 0, .int .u8 0, .int .u8 0, .int .u8 0, .int .u8 0, .int .u8 0, .int .u8 0, .int .u8 0, .int .u8 0, .int .u8 0, .int .u8 0, .int .u8 0, .int .u8 0, .int .u8 0, .int .u8 0, .int .u8 0, .int .u8 0, .int .u8 0, .int .u8 0, .int .u8 0, .int .u8 0, .int .u8 0, .int .u8 0, .int .u8 0, .int .u8 0, .int .u8 0, .int .u8 0, .int .u8 0, .int .u8 0, .int .u8 0] 27) = V2 at *
        replace b9 := b9.to hb
        replace fb := fb.trans (hb.mono fb.size)
        clear hb
        refine wpP_one ?_
        refine wpP_loud rfl (by rfl) ?_
        intro K hK
        go_simp
        refine (cmt_any _ M c2 (L.take M) V2 (by omega) hle4.out (by omega) HFA.out HFL.out (slf.to fb)).mono ?_
        rintro e V3 ⟨rfl, hb⟩
        rw [ESA.out]
        unfold hv
        refine hK.out _ _ trivial ?_
        clear hK K
        try simp only [Act.put, List.setIfInBounds_toArray, List.set_cons_zero, List.set_cons_succ]
        replace b8 := b8.to hb
        replace b9 := b9.to hb
        replace fb := fb.trans (hb.mono fb.size)
        clear hb
        refine wpP_one ?_
        refine wpP_loud rfl (by rfl) ?_
        intro K hK
        go_simp
        refine (cmt_any _ (N - M) (c2 - M) (L.drop M) V3 (by omega) hle3.out (by omega) HBA.out HBL.out (slb.to fb)).mono ?_
        rintro e V4 ⟨rfl, hb⟩
        rw [ESB.out]
        unfold hv
        refine hK.out _ _ trivial ?_
        clear hK K
        try simp only [Act.put, List.setIfInBounds_toArray, List.set_cons_zero, List.set_cons_succ]
        replace b8 := b8.to hb
        replace b9 := b9.to hb
        replace fb := fb.trans (hb.mono fb.size)
        clear hb
        refine wpP_one ?_
        refine wpP_loud rfl (by rfl) ?_
        intro K hK
        refine wp_store_fld _ _ _ rfl p8 0 _ _ (B8 sa) rfl _ rfl rfl b8 (by rw [B8_len, HSA.out]; decide) (info_hash HSA.out) (B8_one _) ?_
        intro V5 bn u
        rw [put_all _ _ (by rw [B8_len, HSA.out]; rfl)] at bn
        refine hK.out _ _ trivial ?_
        clear hK K
        try simp only [Act.put, List.setIfInBounds_toArray, List.set_cons_zero, List.set_cons_succ]
        replace b9 := b9.but u (by intro e; injection e; omega)
        clear b8
        have b8 := bn
        clear bn
        replace fb := below_st fb u HP8.out
        clear u
        refine wpP_one ?_
        refine wpP_loud rfl (by rfl) ?_
        intro K hK
        refine wp_store_fld _ _ _ rfl p9 0 _ _ (B8 sb) rfl _ rfl rfl b9 (by rw [B8_len, HSB.out]; decide) (info_hash HSB.out) (B8_one _) ?_
        intro V6 bn u
        rw [put_all _ _ (by rw [B8_len, HSB.out]; rfl)] at bn
        refine hK.out _ _ trivial ?_
        clear hK K
        try simp only [Act.put, List.setIfInBounds_toArray, List.set_cons_zero, List.set_cons_succ]
        replace b8 := b8.but u (by intro e; injection e; omega)
        clear b9
        have b9 := bn
        clear bn
        replace fb := below_st fb u HP9.out
        clear u
        refine wpP_done ?_
        exact ⟨rfl, p8, p9, rfl, b8, b9, fb⟩
  case mid =>
    rintro e aa w3 ⟨rfl, p8, p9, rfl, b8, b9, fb⟩
    have f3 := f2.trans (fb.mono f2.size)
    have sl3 := sl.to fb
    have HB1 := Lib.hid (built_by y)
    have HY := Lib.hid (byteS_len y)
    generalize byteS y = ys at *
    clear fb f2 sl slf slb ck kc kn u1
    have hN64 : N ≤ 64 := by have := HN.out; omega
    have hbl2 : (B8 ys).length = 32 := by rw [B8_len, HY.out]
    go_wp2_with (first
      | (refine wpl_build (by rfl) _ _ rfl _ HB1.out ?_)
      | (at_builtin
         refine wpl_app _ _ _ _ elH rfl rfl rfl (Own.made w3 w3.heap.size 27 #[] (Nat.le_refl _) (Nat.zero_le _) (by simp)) rfl (sl3.alloc _) (H8_one _) (by omega) (by omega) (by simp) ?_
         intro A4 c4 w4 g4
         have o4 : Own w4 w3.heap.size 27 32 A4 N c4 (H8 L) := by have := g4.own; simp only [Nat.zero_add, List.nil_append] at this; exact this
         have h4 : Below w3.heap.size w3 w4 := ((Below.refl _ _).alloc (Nat.le_refl _) _).trans (g4.below (Own.made w3 w3.heap.size 27 #[] (Nat.le_refl _) (Nat.zero_le _) (by simp)) (by simp))
         have hs4 := h4.size
         rw [Nat.zero_add]
         clear g4)
      | (at_builtin
         rw [fold_sum' ys HY.out]
         refine wpl_push _ _ _ elH rfl rfl rfl o4 rfl (by rw [List.size_toArray, B8_len, HY.out]) (by intro u hu; exact B8_one _ u (by simpa using hu)) (by omega) (by omega) hs4 ?_
         intro A5 c5 w5 g5 h5 gb5))
    have o5 : Own w5 w3.heap.size 27 32 A5 (N + 1) c5 (H8 (L ++ [ys])) := by
      have := g5.own
      rw [H8_snoc]
      exact this
    have h35 := h4.trans h5
    have b8' := b8.to h35
    have b9' := b9.to h35
    have f5 := f3.trans (h35.mono f3.size)
    have sl5 := sl3.to h35
    have hle5 := o5.le
    have HA5 : Hid (∀ x ∈ L ++ [ys], x.length = 32) := (show ∀ x ∈ L ++ [ys], x.length = 32 from by
      intro x hx
      rcases List.mem_append.1 hx with h | h
      · exact HHA.out x h
      · simp at h; rw [h]; exact HY.out)
    have HL5 : Hid ((L ++ [ys]).length = N + 1) := (show _ = _ by rw [List.length_append, HHL.out]; rfl)
    have G5 := G3 ys
    clear g5 gb5 h4 h5 h35 o4 b8 b9 f3 sl3 hs4 G3 hbl2
    refine wp_region_C [(0, true), (2, true), (3, true), (1, false), (4, false), (5, false), (6, false), (7, true), (9, true), (11, true), (12, true), (8, false), (10, false), (13, false), (14, false), (15, false), (16, false)] RBel (by kernel_rfl) (by kernel_rfl) (by kernel_rfl) (by decide) RBel.refl_ RBel.trans_ (by intro d v c a w h; cases d <;> exact h) ?_
    have e8 : Blk w5.drew p8 27 (B8 sa) := b8'
    have e9 : Blk w5.drew p9 27 (B8 sb) := b9'
    have f6 : Below w.heap.size w w5.drew := f5.drew
    have sl6 := sl5.drew
    have sx6 := o5.sl.drew
    clear b8' b9' f5 sl5 o5
    generalize w5.drew = V at *
    have HLS := Lib.hid (commitS_len L HHA.out)
    obtain ⟨cm, hcm⟩ : ∃ cm, cm = commitS L := ⟨_, rfl⟩
    rw [← hcm] at HLS G2 G5
    have ECM := Lib.hid hcm.symm
    clear hcm
    repeat (first | (refine wpC_quiet (v := ?_) rfl (by rfl) ?_ ?_; rotate_left; (· (intro w' hw'; go_simp; try with_reducible rfl)); simp only [Act.put, List.setIfInBounds_toArray, List.set_cons_zero, List.set_cons_succ]) | (refine wpC_val (v := ?_) (RBel.refl_) rfl (by rfl) ?_ ?_; rotate_left; (· (go_simp; try with_reducible rfl)); simp only [Act.put, List.setIfInBounds_toArray, List.set_cons_zero, List.set_cons_succ]) | (refine wpC_skip rfl (by rfl) ?_; simp only [Act.put, List.setIfInBounds_toArray, List.set_cons_zero, List.set_cons_succ]) | (refine wpC_skip' (RBel.refl_) rfl (by rfl) ?_; simp only [Act.put, List.setIfInBounds_toArray, List.set_cons_zero, List.set_cons_succ]))
    refine wpC_load rfl (by rfl) _ _ rfl p8 0 rfl (B8 sa) _ (fun w' hw' => (e8.to hw').range) Try.underlying27 rfl (info_hash HSA.out) ?_
    simp only [Act.put, List.setIfInBounds_toArray, List.set_cons_zero, List.set_cons_succ]
    refine wpC_load rfl (by rfl) _ _ rfl p9 0 rfl (B8 sb) _ (fun w' hw' => (e9.to hw').range) Try.underlying27 rfl (info_hash HSB.out) ?_
    simp only [Act.put, List.setIfInBounds_toArray, List.set_cons_zero, List.set_cons_succ]
    (refine wpC_loud rfl (by rfl) ?_; intro K hK; go_simp)
    refine (cmt_any _ N c2 L V hle2.1 hle2.2 (by omega) HHA.out HHL.out sl6).mono ?_
    rintro e V1 ⟨rfl, h1⟩
    rw [ECM.out]
    unfold hv
    (refine hK.out _ _ (h1) ?_; clear hK K; try simp only [Act.put, List.setIfInBounds_toArray, List.set_cons_zero, List.set_cons_succ])
    have f7 := f6.trans (h1.mono f6.size)
    have sl7 := sl6.to h1
    have sx7 := sx6.to h1
    clear e8 e9 f6 sl6 sx6 h1
    (refine wpC_loud rfl (by rfl) ?_; intro K hK; go_simp)
    refine (refTwo_any sa sb HSA.out HSB.out V1).mono ?_
    rintro e V2 ⟨rfl, h2⟩
    rw [← G2.out]
    unfold hv
    (refine hK.out _ _ (h2) ?_; clear hK K; try simp only [Act.put, List.setIfInBounds_toArray, List.set_cons_zero, List.set_cons_succ])
    have f8 := f7.trans (h2.mono f7.size)
    have sl8 := sl7.to h2
    have sx8 := sx7.to h2
    clear f7 sl7 sx7 h2
    have eq1 := eq_same cm HLS.out
    (refine wpC_val (v := ?_) (RBel.refl_) rfl (by rfl) ?_ ?_; rotate_left; (· (go_simp; try with_reducible rfl)); simp only [Act.put, List.setIfInBounds_toArray, List.set_cons_zero, List.set_cons_succ])
    (refine wpC_val (v := ?_) (RBel.refl_) rfl (by rfl) ?_ ?_; rotate_left; (· (go_simp; try with_reducible rfl)); simp only [Act.put, List.setIfInBounds_toArray, List.set_cons_zero, List.set_cons_succ])
    (refine wpC_quiet (v := ?_) rfl (by rfl) ?_ ?_; rotate_left; (· (intro w' hw'; go_simp; try with_reducible rfl)); simp only [Act.put, List.setIfInBounds_toArray, List.set_cons_zero, List.set_cons_succ])
    (refine wpC_quiet (v := ?_) rfl (by rfl) ?_ ?_; rotate_left; (· (intro w' hw'; go_simp; try with_reducible rfl)); simp only [Act.put, List.setIfInBounds_toArray, List.set_cons_zero, List.set_cons_succ])
    (refine wpC_quiet (v := ?_) rfl (by rfl) ?_ ?_; rotate_left; (· (intro w' hw'; go_simp; try with_reducible rfl)); simp only [Act.put, List.setIfInBounds_toArray, List.set_cons_zero, List.set_cons_succ])
    clear eq1
    refine wpC_build_t rfl (by rfl) _ _ rfl _ HB1.out ?_
    simp only [Act.put, List.setIfInBounds_toArray, List.set_cons_zero, List.set_cons_succ]
    (refine wpC_loud rfl (by rfl) ?_; intro K hK; go_simp)
    refine (cmt_any A5 (N + 1) c5 (L ++ [ys]) V2 hle5.1 hle5.2 (by omega) HA5.out HL5.out sx8).mono ?_
    rintro e V3 ⟨rfl, h3⟩
    rw [G5.out]
    unfold hv
    (refine hK.out _ _ (h3) ?_; clear hK K; try simp only [Act.put, List.setIfInBounds_toArray, List.set_cons_zero, List.set_cons_succ])
    have f9 := f8.trans (h3.mono f8.size)
    have sl9 := sl8.to h3
    clear f8 sl8 sx8 h3
    (refine wpC_loud rfl (by rfl) ?_; intro K hK; go_simp)
    refine (cmt_any _ N c2 L V3 hle2.1 hle2.2 (by omega) HHA.out HHL.out sl9).mono ?_
    rintro e V4 ⟨rfl, h4⟩
    rw [ECM.out]
    unfold hv
    (refine hK.out _ _ (h4) ?_; clear hK K; try simp only [Act.put, List.setIfInBounds_toArray, List.set_cons_zero, List.set_cons_succ])
    have f10 := f9.trans (h4.mono f9.size)
    clear f9 sl9 h4
    (refine wpC_loud rfl (by rfl) ?_; intro K hK; go_simp)
    refine (refTwo_any cm ys HLS.out HY.out V4).mono ?_
    rintro e V5 ⟨rfl, h5⟩
    unfold hv
    (refine hK.out _ _ (h5) ?_; clear hK K; try simp only [Act.put, List.setIfInBounds_toArray, List.set_cons_zero, List.set_cons_succ])
    have f11 := f10.trans (h5.mono f10.size)
    clear f10 h5
    have eq2 := eq_same (twoS cm ys) (twoS_len _ _)
    repeat (first | (refine wpC_quiet (v := ?_) rfl (by rfl) ?_ ?_; rotate_left; (· (intro w' hw'; go_simp; try with_reducible rfl)); simp only [Act.put, List.setIfInBounds_toArray, List.set_cons_zero, List.set_cons_succ]) | (refine wpC_val (v := ?_) (RBel.refl_) rfl (by rfl) ?_ ?_; rotate_left; (· (go_simp; try with_reducible rfl)); simp only [Act.put, List.setIfInBounds_toArray, List.set_cons_zero, List.set_cons_succ]) | (refine wpC_skip rfl (by rfl) ?_; simp only [Act.put, List.setIfInBounds_toArray, List.set_cons_zero, List.set_cons_succ]) | (refine wpC_skip' (RBel.refl_) rfl (by rfl) ?_; simp only [Act.put, List.setIfInBounds_toArray, List.set_cons_zero, List.set_cons_succ]))
    refine wpC_nil ?_
    go_wp2_with fail
    go_ret
    exact ⟨rfl, f11⟩
end Go.Proofs.Ytakebmpnbdlcoaa

