/- The texts of this claim, part I: words, plain laws, walks. -/
import Derived.Test.YtakebmpnbdlcoaaPartH
import Derived.Test.YtakebmpnbdlcoaaPartF
/- The walk of capstanlaw7.TreeLeaves. -/
set_option linter.unusedSimpArgs false
set_option linter.unusedVariables false
namespace Go.Proofs.Ytakebmpnbdlcoaa
open Go.RowKit
set_option maxRecDepth 100000
theorem built_id (i : Int) : Try.prog.built 23 [(0, .int .i64 i)] = some (accC (Acc.mk i 0 0 0)).toArray := by kernel_rfl
def nthX : List Value → Nat → Value
  | [], _ => undef
  | x :: _, 0 => x
  | _ :: l, n + 1 => nthX l n
theorem midX {l : List Value} {F : (Nat → Value) → Array Value} {X : Prop} (h : F (nthX l) = l.toArray) (hx : X) : ∃ u : Nat → Value, (⟨l.toArray, []⟩ : Act) = ⟨F u, []⟩ ∧ X := ⟨_, by rw [h], hx⟩
set_option maxRecDepth 100000 in
set_option maxHeartbeats 8000000 in
theorem treeLeaves_walk (w : World) (x : Acc) (hx : x.wf) (b : Int) (b_lo : -9223372036854775808 ≤ b) (b_hi : b < 9223372036854775808) :
    Calls Try.prog 3 #[accV x, .int .i64 b] w (RB true w) := by
  unfold accV
  obtain ⟨W, HW, hbw, ba⟩ : ∃ W, Hid (W = w.alloc (.cells (accC x).toArray 23)) ∧ Below w.heap.size w W ∧ Blk W w.heap.size 23 (accC x) :=
    ⟨_, rfl, (Below.refl _ _).alloc (Nat.le_refl _) _, Blk.new w (accC x).toArray 23⟩
  have HX := Lib.hid hx
  clear hx
  go_enter Try.func3, Try.ntmps3
  go_upto_region 1 with fail
  refine wp_at HW.out ?_
  clear HW
  go_wp2_with fail
  refine (treeKnown_any _).mono ?_
  rintro e w1 ⟨rfl, h1⟩
  have ba1 := ba.to h1
  have f1 := hbw.trans (h1.mono hbw.size)
  clear ba hbw h1
  obtain ⟨⟨d0, d1, d2, d3⟩, k0, k1, k2, k3⟩ := acc_cells ba1
  go_wp2_with fail
  obtain ⟨i, hi⟩ : ∃ i, x.id % 256 = i := ⟨_, rfl⟩
  obtain ⟨m, hm⟩ : ∃ i, x.bal % 100 = i := ⟨_, rfl⟩
  obtain ⟨k, hk⟩ : ∃ i, x.non % 9 = i := ⟨_, rfl⟩
  have hi1 : 0 ≤ i ∧ i < 256 := by omega
  have hm1 : 0 ≤ m ∧ m < 100 := by omega
  have hk1 : 0 ≤ k ∧ k < 9 := by omega
  have HI := Lib.hid hi
  have HM := Lib.hid hm
  have HK := Lib.hid hk
  clear hi hm hk
  have wm : IntKind.i64.wrap (1 + m) = 1 + m := IntWalk.i64_in _ (by omega)
  have hq0 : Blk w1.drew w.heap.size 23 (accC x) := ba1
  have fd0 : Below w.heap.size w w1.drew := f1.drew
  obtain ⟨V1, hV1⟩ : ∃ W, W = w1.drew := ⟨_, rfl⟩
  rw [← hV1] at hq0 fd0
  refine Code.wp_mono (Q := fun e aa w' => e = .normal ∧ ∃ u : Nat → Value, aa = ⟨#[.agg (accC x).toArray, .int .i64 b, .pointer (some ⟨w.heap.size, 0, none⟩), undef, .bool false, undef, .bool true, .bool false, u 8, u 9, u 10, u 11, u 12, u 13, u 14, u 15, u 16, u 17, u 18, u 19, u 20, undef, undef, undef, undef, undef, undef, undef, undef, undef, undef, undef, undef, undef, undef, undef, undef, undef, undef, undef, undef, undef, undef, undef, undef, undef, undef, undef, undef, undef, undef, undef, undef, undef, undef, undef, undef, undef, undef, undef, undef, undef, undef, undef, undef, undef, undef, undef, undef], []⟩ ∧ w' = ((V1.setCell ⟨w.heap.size, 0, none⟩ (.int .i64 i)).setCell ⟨w.heap.size, 1, none⟩ (.int .i64 (1 + m))).setCell ⟨w.heap.size, 2, none⟩ (.int .i64 k) ∧ True) ?mid ?reg
  case reg =>
    refine wp_region_P (.take 0 (.take 3 (.take 7 (.three 1 (.three 2 (.two 4 (.two 5 (.take 6 (.one 8 (.take 10 (.one 9 (.one 11 (.take 12 (.one 13 (.take 14 (.one 15 .done))))))))) 8 (.take 10 (.one 5 (.take 6 (.one 9 (.one 11 (.take 12 (.one 13 (.take 14 (.one 15 .done)))))))))) 8 (.one 4 (.take 10 (.one 5 (.take 6 (.one 9 (.one 11 (.take 12 (.one 13 (.take 14 (.one 15 .done))))))))))) 4 (.two 2 (.two 5 (.take 6 (.one 8 (.take 10 (.one 9 (.one 11 (.take 12 (.one 13 (.take 14 (.one 15 .done))))))))) 8 (.take 10 (.one 5 (.take 6 (.one 9 (.one 11 (.take 12 (.one 13 (.take 14 (.one 15 .done)))))))))) 8 (.one 2 (.take 10 (.one 5 (.take 6 (.one 9 (.one 11 (.take 12 (.one 13 (.take 14 (.one 15 .done))))))))))) 8 (.two 2 (.one 4 (.take 10 (.one 5 (.take 6 (.one 9 (.one 11 (.take 12 (.one 13 (.take 14 (.one 15 .done)))))))))) 4 (.one 2 (.take 10 (.one 5 (.take 6 (.one 9 (.one 11 (.take 12 (.one 13 (.take 14 (.one 15 .done)))))))))))) 4 (.two 1 (.two 2 (.two 5 (.take 6 (.one 8 (.take 10 (.one 9 (.one 11 (.take 12 (.one 13 (.take 14 (.one 15 .done))))))))) 8 (.take 10 (.one 5 (.take 6 (.one 9 (.one 11 (.take 12 (.one 13 (.take 14 (.one 15 .done)))))))))) 8 (.one 2 (.take 10 (.one 5 (.take 6 (.one 9 (.one 11 (.take 12 (.one 13 (.take 14 (.one 15 .done))))))))))) 8 (.one 1 (.one 2 (.take 10 (.one 5 (.take 6 (.one 9 (.one 11 (.take 12 (.one 13 (.take 14 (.one 15 .done)))))))))))) 8 (.two 1 (.two 2 (.one 4 (.take 10 (.one 5 (.take 6 (.one 9 (.one 11 (.take 12 (.one 13 (.take 14 (.one 15 .done)))))))))) 4 (.one 2 (.take 10 (.one 5 (.take 6 (.one 9 (.one 11 (.take 12 (.one 13 (.take 14 (.one 15 .done))))))))))) 4 (.one 1 (.one 2 (.take 10 (.one 5 (.take 6 (.one 9 (.one 11 (.take 12 (.one 13 (.take 14 (.one 15 .done)))))))))))))))) (fun _ _ => True) (by kernel_rfl) (by kernel_rfl) (by kernel_rfl) (by decide +kernel) (fun _ => trivial) (fun _ _ _ _ _ => trivial) (by intro d v c a w h; exact absurd h.1 (by simp)) ?_
    subst hV1
    clear hq0 fd0
    have bad : Blk w1.drew w.heap.size 23 (accC x) := ba1
    have fd : Below w.heap.size w w1.drew := f1.drew
    clear ba1 f1 d0 d1 d2 d3 k0 k1 k2 k3
    generalize w1.drew = V0 at *
    obtain ⟨⟨d0, d1, d2, d3⟩, k0, k1, k2, k3⟩ := acc_cells bad
    first | (refine wpP_quiet (v := ?_) rfl (by rfl) ?_ ?_; rotate_left; (· (intro w' hw'; go_simp; try with_reducible rfl)); simp only [Act.put, List.setIfInBounds_toArray, List.set_cons_zero, List.set_cons_succ]) | (refine wpP_skip rfl (by rfl) ?_; simp only [Act.put, List.setIfInBounds_toArray, List.set_cons_zero, List.set_cons_succ])
    first | (refine wpP_quiet (v := ?_) rfl (by rfl) ?_ ?_; rotate_left; (· (intro w' hw'; go_simp; try with_reducible rfl)); simp only [Act.put, List.setIfInBounds_toArray, List.set_cons_zero, List.set_cons_succ]) | (refine wpP_skip rfl (by rfl) ?_; simp only [Act.put, List.setIfInBounds_toArray, List.set_cons_zero, List.set_cons_succ])
    first | (refine wpP_quiet (v := ?_) rfl (by rfl) ?_ ?_; rotate_left; (· (intro w' hw'; go_simp; try with_reducible rfl)); simp only [Act.put, List.setIfInBounds_toArray, List.set_cons_zero, List.set_cons_succ]) | (refine wpP_skip rfl (by rfl) ?_; simp only [Act.put, List.setIfInBounds_toArray, List.set_cons_zero, List.set_cons_succ])
    refine wpP_three ?_ ?_ ?_
    · refine wpP_loud rfl (by rfl) ?_
      intro K hK
      go_simp
      refine hK.out _ _ trivial ?_
      clear hK K
      try simp only [Act.put, List.setIfInBounds_toArray, List.set_cons_zero, List.set_cons_succ]
      refine wpP_three ?_ ?_ ?_
      · refine wpP_loud rfl (by rfl) ?_
        intro K hK
        go_simp
        refine (within_capstanlaw7 x.id 256 _ (by omega) (by omega) HX.out.id.1 HX.out.id.2).mono ?_
        rintro e Vn ⟨rfl, rfl⟩
        rw [HI.out]
        refine hK.out _ _ trivial ?_
        clear hK K
        try simp only [Act.put, List.setIfInBounds_toArray, List.set_cons_zero, List.set_cons_succ]
        refine wpP_two ?_ ?_
        · refine wpP_loud rfl (by rfl) ?_
          intro K hK
          go_simp
          refine hK.out _ _ trivial ?_
          clear hK K
          try simp only [Act.put, List.setIfInBounds_toArray, List.set_cons_zero, List.set_cons_succ]
          refine wpP_two ?_ ?_
          · refine wpP_loud rfl (by rfl) ?_
            intro K hK
            go_simp
            refine (within_capstanlaw7 x.bal 100 _ (by omega) (by omega) HX.out.bal.1 HX.out.bal.2).mono ?_
            rintro e Vn ⟨rfl, rfl⟩
            rw [HM.out]
            refine hK.out _ _ trivial ?_
            clear hK K
            try simp only [Act.put, List.setIfInBounds_toArray, List.set_cons_zero, List.set_cons_succ]
            first | (refine wpP_quiet (v := ?_) rfl (by rfl) ?_ ?_; rotate_left; (· (intro w' hw'; go_simp; try with_reducible rfl)); simp only [Act.put, List.setIfInBounds_toArray, List.set_cons_zero, List.set_cons_succ]) | (refine wpP_skip rfl (by rfl) ?_; simp only [Act.put, List.setIfInBounds_toArray, List.set_cons_zero, List.set_cons_succ])
            refine wpP_one ?_
            refine wpP_loud rfl (by rfl) ?_
            intro K hK
            go_simp
            refine hK.out _ _ trivial ?_
            clear hK K
            try simp only [Act.put, List.setIfInBounds_toArray, List.set_cons_zero, List.set_cons_succ]
            first | (refine wpP_quiet (v := ?_) rfl (by rfl) ?_ ?_; rotate_left; (· (intro w' hw'; go_simp; try with_reducible rfl)); simp only [Act.put, List.setIfInBounds_toArray, List.set_cons_zero, List.set_cons_succ]) | (refine wpP_skip rfl (by rfl) ?_; simp only [Act.put, List.setIfInBounds_toArray, List.set_cons_zero, List.set_cons_succ])
            refine wpP_one ?_
            refine wpP_loud rfl (by rfl) ?_
            intro K hK
            go_simp
            refine (within_capstanlaw7 x.non 9 _ (by omega) (by omega) HX.out.non.1 HX.out.non.2).mono ?_
            rintro e Vn ⟨rfl, rfl⟩
            rw [HK.out]
            refine hK.out _ _ trivial ?_
            clear hK K
            try simp only [Act.put, List.setIfInBounds_toArray, List.set_cons_zero, List.set_cons_succ]
            refine wpP_one ?_
            refine wpP_loud rfl (by rfl) ?_
            intro K hK
            go_simp
            refine hK.out _ _ trivial ?_
            clear hK K
            try simp only [Act.put, List.setIfInBounds_toArray, List.set_cons_zero, List.set_cons_succ]
            first | (refine wpP_quiet (v := ?_) rfl (by rfl) ?_ ?_; rotate_left; (· (intro w' hw'; go_simp; try with_reducible rfl)); simp only [Act.put, List.setIfInBounds_toArray, List.set_cons_zero, List.set_cons_succ]) | (refine wpP_skip rfl (by rfl) ?_; simp only [Act.put, List.setIfInBounds_toArray, List.set_cons_zero, List.set_cons_succ])
            refine wpP_one ?_
            refine wpP_loud rfl (by rfl) ?_
            intro K hK
            go_simp
            refine hK.out _ _ trivial ?_
            clear hK K
            try simp only [Act.put, List.setIfInBounds_toArray, List.set_cons_zero, List.set_cons_succ]
            first | (refine wpP_quiet (v := ?_) rfl (by rfl) ?_ ?_; rotate_left; (· (intro w' hw'; go_simp; try with_reducible rfl)); simp only [Act.put, List.setIfInBounds_toArray, List.set_cons_zero, List.set_cons_succ]) | (refine wpP_skip rfl (by rfl) ?_; simp only [Act.put, List.setIfInBounds_toArray, List.set_cons_zero, List.set_cons_succ])
            refine wpP_one ?_
            refine wpP_loud rfl (by rfl) ?_
            intro K hK
            go_simp
            refine hK.out _ _ trivial ?_
            clear hK K
            try simp only [Act.put, List.setIfInBounds_toArray, List.set_cons_zero, List.set_cons_succ]
            refine wpP_done ?_
            exact ⟨rfl, midX rfl ⟨rfl, trivial⟩⟩
          · refine wpP_loud rfl (by rfl) ?_
            intro K hK
            go_simp
            refine hK.out _ _ trivial ?_
            clear hK K
            try simp only [Act.put, List.setIfInBounds_toArray, List.set_cons_zero, List.set_cons_succ]
            first | (refine wpP_quiet (v := ?_) rfl (by rfl) ?_ ?_; rotate_left; (· (intro w' hw'; go_simp; try with_reducible rfl)); simp only [Act.put, List.setIfInBounds_toArray, List.set_cons_zero, List.set_cons_succ]) | (refine wpP_skip rfl (by rfl) ?_; simp only [Act.put, List.setIfInBounds_toArray, List.set_cons_zero, List.set_cons_succ])
            refine wpP_one ?_
            refine wpP_loud rfl (by rfl) ?_
            intro K hK
            go_simp
            refine (within_capstanlaw7 x.bal 100 _ (by omega) (by omega) HX.out.bal.1 HX.out.bal.2).mono ?_
            rintro e Vn ⟨rfl, rfl⟩
            rw [HM.out]
            refine hK.out _ _ trivial ?_
            clear hK K
            try simp only [Act.put, List.setIfInBounds_toArray, List.set_cons_zero, List.set_cons_succ]
            first | (refine wpP_quiet (v := ?_) rfl (by rfl) ?_ ?_; rotate_left; (· (intro w' hw'; go_simp; try with_reducible rfl)); simp only [Act.put, List.setIfInBounds_toArray, List.set_cons_zero, List.set_cons_succ]) | (refine wpP_skip rfl (by rfl) ?_; simp only [Act.put, List.setIfInBounds_toArray, List.set_cons_zero, List.set_cons_succ])
            refine wpP_one ?_
            refine wpP_loud rfl (by rfl) ?_
            intro K hK
            go_simp
            refine (within_capstanlaw7 x.non 9 _ (by omega) (by omega) HX.out.non.1 HX.out.non.2).mono ?_
            rintro e Vn ⟨rfl, rfl⟩
            rw [HK.out]
            refine hK.out _ _ trivial ?_
            clear hK K
            try simp only [Act.put, List.setIfInBounds_toArray, List.set_cons_zero, List.set_cons_succ]
            refine wpP_one ?_
            refine wpP_loud rfl (by rfl) ?_
            intro K hK
            go_simp
            refine hK.out _ _ trivial ?_
            clear hK K
            try simp only [Act.put, List.setIfInBounds_toArray, List.set_cons_zero, List.set_cons_succ]
            first | (refine wpP_quiet (v := ?_) rfl (by rfl) ?_ ?_; rotate_left; (· (intro w' hw'; go_simp; try with_reducible rfl)); simp only [Act.put, List.setIfInBounds_toArray, List.set_cons_zero, List.set_cons_succ]) | (refine wpP_skip rfl (by rfl) ?_; simp only [Act.put, List.setIfInBounds_toArray, List.set_cons_zero, List.set_cons_succ])
            refine wpP_one ?_
            refine wpP_loud rfl (by rfl) ?_
            intro K hK
            go_simp
            refine hK.out _ _ trivial ?_
            clear hK K
            try simp only [Act.put, List.setIfInBounds_toArray, List.set_cons_zero, List.set_cons_succ]
            first | (refine wpP_quiet (v := ?_) rfl (by rfl) ?_ ?_; rotate_left; (· (intro w' hw'; go_simp; try with_reducible rfl)); simp only [Act.put, List.setIfInBounds_toArray, List.set_cons_zero, List.set_cons_succ]) | (refine wpP_skip rfl (by rfl) ?_; simp only [Act.put, List.setIfInBounds_toArray, List.set_cons_zero, List.set_cons_succ])
            refine wpP_one ?_
            refine wpP_loud rfl (by rfl) ?_
            intro K hK
            go_simp
            refine hK.out _ _ trivial ?_
            clear hK K
            try simp only [Act.put, List.setIfInBounds_toArray, List.set_cons_zero, List.set_cons_succ]
            refine wpP_done ?_
            exact ⟨rfl, midX rfl ⟨rfl, trivial⟩⟩
        · refine wpP_loud rfl (by rfl) ?_
          intro K hK
          go_simp
          refine hK.out _ _ trivial ?_
          clear hK K
          try simp only [Act.put, List.setIfInBounds_toArray, List.set_cons_zero, List.set_cons_succ]
          refine wpP_one ?_
          refine wpP_loud rfl (by rfl) ?_
          intro K hK
          go_simp
          refine hK.out _ _ trivial ?_
          clear hK K
          try simp only [Act.put, List.setIfInBounds_toArray, List.set_cons_zero, List.set_cons_succ]
          first | (refine wpP_quiet (v := ?_) rfl (by rfl) ?_ ?_; rotate_left; (· (intro w' hw'; go_simp; try with_reducible rfl)); simp only [Act.put, List.setIfInBounds_toArray, List.set_cons_zero, List.set_cons_succ]) | (refine wpP_skip rfl (by rfl) ?_; simp only [Act.put, List.setIfInBounds_toArray, List.set_cons_zero, List.set_cons_succ])
          refine wpP_one ?_
          refine wpP_loud rfl (by rfl) ?_
          intro K hK
          go_simp
          refine (within_capstanlaw7 x.bal 100 _ (by omega) (by omega) HX.out.bal.1 HX.out.bal.2).mono ?_
          rintro e Vn ⟨rfl, rfl⟩
          rw [HM.out]
          refine hK.out _ _ trivial ?_
          clear hK K
          try simp only [Act.put, List.setIfInBounds_toArray, List.set_cons_zero, List.set_cons_succ]
          first | (refine wpP_quiet (v := ?_) rfl (by rfl) ?_ ?_; rotate_left; (· (intro w' hw'; go_simp; try with_reducible rfl)); simp only [Act.put, List.setIfInBounds_toArray, List.set_cons_zero, List.set_cons_succ]) | (refine wpP_skip rfl (by rfl) ?_; simp only [Act.put, List.setIfInBounds_toArray, List.set_cons_zero, List.set_cons_succ])
          refine wpP_one ?_
          refine wpP_loud rfl (by rfl) ?_
          intro K hK
          go_simp
          refine (within_capstanlaw7 x.non 9 _ (by omega) (by omega) HX.out.non.1 HX.out.non.2).mono ?_
          rintro e Vn ⟨rfl, rfl⟩
          rw [HK.out]
          refine hK.out _ _ trivial ?_
          clear hK K
          try simp only [Act.put, List.setIfInBounds_toArray, List.set_cons_zero, List.set_cons_succ]
          refine wpP_one ?_
          refine wpP_loud rfl (by rfl) ?_
          intro K hK
          go_simp
          refine hK.out _ _ trivial ?_
          clear hK K
          try simp only [Act.put, List.setIfInBounds_toArray, List.set_cons_zero, List.set_cons_succ]
          first | (refine wpP_quiet (v := ?_) rfl (by rfl) ?_ ?_; rotate_left; (· (intro w' hw'; go_simp; try with_reducible rfl)); simp only [Act.put, List.setIfInBounds_toArray, List.set_cons_zero, List.set_cons_succ]) | (refine wpP_skip rfl (by rfl) ?_; simp only [Act.put, List.setIfInBounds_toArray, List.set_cons_zero, List.set_cons_succ])
          refine wpP_one ?_
          refine wpP_loud rfl (by rfl) ?_
          intro K hK
          go_simp
          refine hK.out _ _ trivial ?_
          clear hK K
          try simp only [Act.put, List.setIfInBounds_toArray, List.set_cons_zero, List.set_cons_succ]
          first | (refine wpP_quiet (v := ?_) rfl (by rfl) ?_ ?_; rotate_left; (· (intro w' hw'; go_simp; try with_reducible rfl)); simp only [Act.put, List.setIfInBounds_toArray, List.set_cons_zero, List.set_cons_succ]) | (refine wpP_skip rfl (by rfl) ?_; simp only [Act.put, List.setIfInBounds_toArray, List.set_cons_zero, List.set_cons_succ])
          refine wpP_one ?_
          refine wpP_loud rfl (by rfl) ?_
          intro K hK
          go_simp
          refine hK.out _ _ trivial ?_
          clear hK K
          try simp only [Act.put, List.setIfInBounds_toArray, List.set_cons_zero, List.set_cons_succ]
          refine wpP_done ?_
          exact ⟨rfl, midX rfl ⟨rfl, trivial⟩⟩
      · refine wpP_loud rfl (by rfl) ?_
        intro K hK
        go_simp
        refine hK.out _ _ trivial ?_
        clear hK K
        try simp only [Act.put, List.setIfInBounds_toArray, List.set_cons_zero, List.set_cons_succ]
        refine wpP_two ?_ ?_
        · refine wpP_loud rfl (by rfl) ?_
          intro K hK
          go_simp
          refine (within_capstanlaw7 x.id 256 _ (by omega) (by omega) HX.out.id.1 HX.out.id.2).mono ?_
          rintro e Vn ⟨rfl, rfl⟩
          rw [HI.out]
          refine hK.out _ _ trivial ?_
          clear hK K
          try simp only [Act.put, List.setIfInBounds_toArray, List.set_cons_zero, List.set_cons_succ]
          refine wpP_two ?_ ?_
          · refine wpP_loud rfl (by rfl) ?_
            intro K hK
            go_simp
            refine (within_capstanlaw7 x.bal 100 _ (by omega) (by omega) HX.out.bal.1 HX.out.bal.2).mono ?_
            rintro e Vn ⟨rfl, rfl⟩
            rw [HM.out]
            refine hK.out _ _ trivial ?_
            clear hK K
            try simp only [Act.put, List.setIfInBounds_toArray, List.set_cons_zero, List.set_cons_succ]
            first | (refine wpP_quiet (v := ?_) rfl (by rfl) ?_ ?_; rotate_left; (· (intro w' hw'; go_simp; try with_reducible rfl)); simp only [Act.put, List.setIfInBounds_toArray, List.set_cons_zero, List.set_cons_succ]) | (refine wpP_skip rfl (by rfl) ?_; simp only [Act.put, List.setIfInBounds_toArray, List.set_cons_zero, List.set_cons_succ])
            refine wpP_one ?_
            refine wpP_loud rfl (by rfl) ?_
            intro K hK
            go_simp
            refine hK.out _ _ trivial ?_
            clear hK K
            try simp only [Act.put, List.setIfInBounds_toArray, List.set_cons_zero, List.set_cons_succ]
            first | (refine wpP_quiet (v := ?_) rfl (by rfl) ?_ ?_; rotate_left; (· (intro w' hw'; go_simp; try with_reducible rfl)); simp only [Act.put, List.setIfInBounds_toArray, List.set_cons_zero, List.set_cons_succ]) | (refine wpP_skip rfl (by rfl) ?_; simp only [Act.put, List.setIfInBounds_toArray, List.set_cons_zero, List.set_cons_succ])
            refine wpP_one ?_
            refine wpP_loud rfl (by rfl) ?_
            intro K hK
            go_simp
            refine (within_capstanlaw7 x.non 9 _ (by omega) (by omega) HX.out.non.1 HX.out.non.2).mono ?_
            rintro e Vn ⟨rfl, rfl⟩
            rw [HK.out]
            refine hK.out _ _ trivial ?_
            clear hK K
            try simp only [Act.put, List.setIfInBounds_toArray, List.set_cons_zero, List.set_cons_succ]
            refine wpP_one ?_
            refine wpP_loud rfl (by rfl) ?_
            intro K hK
            go_simp
            refine hK.out _ _ trivial ?_
            clear hK K
            try simp only [Act.put, List.setIfInBounds_toArray, List.set_cons_zero, List.set_cons_succ]
            first | (refine wpP_quiet (v := ?_) rfl (by rfl) ?_ ?_; rotate_left; (· (intro w' hw'; go_simp; try with_reducible rfl)); simp only [Act.put, List.setIfInBounds_toArray, List.set_cons_zero, List.set_cons_succ]) | (refine wpP_skip rfl (by rfl) ?_; simp only [Act.put, List.setIfInBounds_toArray, List.set_cons_zero, List.set_cons_succ])
            refine wpP_one ?_
            refine wpP_loud rfl (by rfl) ?_
            intro K hK
            go_simp
            refine hK.out _ _ trivial ?_
            clear hK K
            try simp only [Act.put, List.setIfInBounds_toArray, List.set_cons_zero, List.set_cons_succ]
            first | (refine wpP_quiet (v := ?_) rfl (by rfl) ?_ ?_; rotate_left; (· (intro w' hw'; go_simp; try with_reducible rfl)); simp only [Act.put, List.setIfInBounds_toArray, List.set_cons_zero, List.set_cons_succ]) | (refine wpP_skip rfl (by rfl) ?_; simp only [Act.put, List.setIfInBounds_toArray, List.set_cons_zero, List.set_cons_succ])
            refine wpP_one ?_
            refine wpP_loud rfl (by rfl) ?_
            intro K hK
            go_simp
            refine hK.out _ _ trivial ?_
            clear hK K
            try simp only [Act.put, List.setIfInBounds_toArray, List.set_cons_zero, List.set_cons_succ]
            refine wpP_done ?_
            exact ⟨rfl, midX rfl ⟨rfl, trivial⟩⟩
          · refine wpP_loud rfl (by rfl) ?_
            intro K hK
            go_simp
            refine hK.out _ _ trivial ?_
            clear hK K
            try simp only [Act.put, List.setIfInBounds_toArray, List.set_cons_zero, List.set_cons_succ]
            first | (refine wpP_quiet (v := ?_) rfl (by rfl) ?_ ?_; rotate_left; (· (intro w' hw'; go_simp; try with_reducible rfl)); simp only [Act.put, List.setIfInBounds_toArray, List.set_cons_zero, List.set_cons_succ]) | (refine wpP_skip rfl (by rfl) ?_; simp only [Act.put, List.setIfInBounds_toArray, List.set_cons_zero, List.set_cons_succ])
            refine wpP_one ?_
            refine wpP_loud rfl (by rfl) ?_
            intro K hK
            go_simp
            refine (within_capstanlaw7 x.bal 100 _ (by omega) (by omega) HX.out.bal.1 HX.out.bal.2).mono ?_
            rintro e Vn ⟨rfl, rfl⟩
            rw [HM.out]
            refine hK.out _ _ trivial ?_
            clear hK K
            try simp only [Act.put, List.setIfInBounds_toArray, List.set_cons_zero, List.set_cons_succ]
            first | (refine wpP_quiet (v := ?_) rfl (by rfl) ?_ ?_; rotate_left; (· (intro w' hw'; go_simp; try with_reducible rfl)); simp only [Act.put, List.setIfInBounds_toArray, List.set_cons_zero, List.set_cons_succ]) | (refine wpP_skip rfl (by rfl) ?_; simp only [Act.put, List.setIfInBounds_toArray, List.set_cons_zero, List.set_cons_succ])
            refine wpP_one ?_
            refine wpP_loud rfl (by rfl) ?_
            intro K hK
            go_simp
            refine (within_capstanlaw7 x.non 9 _ (by omega) (by omega) HX.out.non.1 HX.out.non.2).mono ?_
            rintro e Vn ⟨rfl, rfl⟩
            rw [HK.out]
            refine hK.out _ _ trivial ?_
            clear hK K
            try simp only [Act.put, List.setIfInBounds_toArray, List.set_cons_zero, List.set_cons_succ]
            refine wpP_one ?_
            refine wpP_loud rfl (by rfl) ?_
            intro K hK
            go_simp
            refine hK.out _ _ trivial ?_
            clear hK K
            try simp only [Act.put, List.setIfInBounds_toArray, List.set_cons_zero, List.set_cons_succ]
            first | (refine wpP_quiet (v := ?_) rfl (by rfl) ?_ ?_; rotate_left; (· (intro w' hw'; go_simp; try with_reducible rfl)); simp only [Act.put, List.setIfInBounds_toArray, List.set_cons_zero, List.set_cons_succ]) | (refine wpP_skip rfl (by rfl) ?_; simp only [Act.put, List.setIfInBounds_toArray, List.set_cons_zero, List.set_cons_succ])
            refine wpP_one ?_
            refine wpP_loud rfl (by rfl) ?_
            intro K hK
            go_simp
            refine hK.out _ _ trivial ?_
            clear hK K
            try simp only [Act.put, List.setIfInBounds_toArray, List.set_cons_zero, List.set_cons_succ]
            first | (refine wpP_quiet (v := ?_) rfl (by rfl) ?_ ?_; rotate_left; (· (intro w' hw'; go_simp; try with_reducible rfl)); simp only [Act.put, List.setIfInBounds_toArray, List.set_cons_zero, List.set_cons_succ]) | (refine wpP_skip rfl (by rfl) ?_; simp only [Act.put, List.setIfInBounds_toArray, List.set_cons_zero, List.set_cons_succ])
            refine wpP_one ?_
            refine wpP_loud rfl (by rfl) ?_
            intro K hK
            go_simp
            refine hK.out _ _ trivial ?_
            clear hK K
            try simp only [Act.put, List.setIfInBounds_toArray, List.set_cons_zero, List.set_cons_succ]
            refine wpP_done ?_
            exact ⟨rfl, midX rfl ⟨rfl, trivial⟩⟩
        · refine wpP_loud rfl (by rfl) ?_
          intro K hK
          go_simp
          refine hK.out _ _ trivial ?_
          clear hK K
          try simp only [Act.put, List.setIfInBounds_toArray, List.set_cons_zero, List.set_cons_succ]
          refine wpP_one ?_
          refine wpP_loud rfl (by rfl) ?_
          intro K hK
          go_simp
          refine (within_capstanlaw7 x.id 256 _ (by omega) (by omega) HX.out.id.1 HX.out.id.2).mono ?_
          rintro e Vn ⟨rfl, rfl⟩
          rw [HI.out]
          refine hK.out _ _ trivial ?_
          clear hK K
          try simp only [Act.put, List.setIfInBounds_toArray, List.set_cons_zero, List.set_cons_succ]
          first | (refine wpP_quiet (v := ?_) rfl (by rfl) ?_ ?_; rotate_left; (· (intro w' hw'; go_simp; try with_reducible rfl)); simp only [Act.put, List.setIfInBounds_toArray, List.set_cons_zero, List.set_cons_succ]) | (refine wpP_skip rfl (by rfl) ?_; simp only [Act.put, List.setIfInBounds_toArray, List.set_cons_zero, List.set_cons_succ])
          refine wpP_one ?_
          refine wpP_loud rfl (by rfl) ?_
          intro K hK
          go_simp
          refine (within_capstanlaw7 x.bal 100 _ (by omega) (by omega) HX.out.bal.1 HX.out.bal.2).mono ?_
          rintro e Vn ⟨rfl, rfl⟩
          rw [HM.out]
          refine hK.out _ _ trivial ?_
          clear hK K
          try simp only [Act.put, List.setIfInBounds_toArray, List.set_cons_zero, List.set_cons_succ]
          first | (refine wpP_quiet (v := ?_) rfl (by rfl) ?_ ?_; rotate_left; (· (intro w' hw'; go_simp; try with_reducible rfl)); simp only [Act.put, List.setIfInBounds_toArray, List.set_cons_zero, List.set_cons_succ]) | (refine wpP_skip rfl (by rfl) ?_; simp only [Act.put, List.setIfInBounds_toArray, List.set_cons_zero, List.set_cons_succ])
          refine wpP_one ?_
          refine wpP_loud rfl (by rfl) ?_
          intro K hK
          go_simp
          refine (within_capstanlaw7 x.non 9 _ (by omega) (by omega) HX.out.non.1 HX.out.non.2).mono ?_
          rintro e Vn ⟨rfl, rfl⟩
          rw [HK.out]
          refine hK.out _ _ trivial ?_
          clear hK K
          try simp only [Act.put, List.setIfInBounds_toArray, List.set_cons_zero, List.set_cons_succ]
          refine wpP_one ?_
          refine wpP_loud rfl (by rfl) ?_
          intro K hK
          go_simp
          refine hK.out _ _ trivial ?_
          clear hK K
          try simp only [Act.put, List.setIfInBounds_toArray, List.set_cons_zero, List.set_cons_succ]
          first | (refine wpP_quiet (v := ?_) rfl (by rfl) ?_ ?_; rotate_left; (· (intro w' hw'; go_simp; try with_reducible rfl)); simp only [Act.put, List.setIfInBounds_toArray, List.set_cons_zero, List.set_cons_succ]) | (refine wpP_skip rfl (by rfl) ?_; simp only [Act.put, List.setIfInBounds_toArray, List.set_cons_zero, List.set_cons_succ])
          refine wpP_one ?_
          refine wpP_loud rfl (by rfl) ?_
          intro K hK
          go_simp
          refine hK.out _ _ trivial ?_
          clear hK K
          try simp only [Act.put, List.setIfInBounds_toArray, List.set_cons_zero, List.set_cons_succ]
          first | (refine wpP_quiet (v := ?_) rfl (by rfl) ?_ ?_; rotate_left; (· (intro w' hw'; go_simp; try with_reducible rfl)); simp only [Act.put, List.setIfInBounds_toArray, List.set_cons_zero, List.set_cons_succ]) | (refine wpP_skip rfl (by rfl) ?_; simp only [Act.put, List.setIfInBounds_toArray, List.set_cons_zero, List.set_cons_succ])
          refine wpP_one ?_
          refine wpP_loud rfl (by rfl) ?_
          intro K hK
          go_simp
          refine hK.out _ _ trivial ?_
          clear hK K
          try simp only [Act.put, List.setIfInBounds_toArray, List.set_cons_zero, List.set_cons_succ]
          refine wpP_done ?_
          exact ⟨rfl, midX rfl ⟨rfl, trivial⟩⟩
      · refine wpP_loud rfl (by rfl) ?_
        intro K hK
        go_simp
        refine hK.out _ _ trivial ?_
        clear hK K
        try simp only [Act.put, List.setIfInBounds_toArray, List.set_cons_zero, List.set_cons_succ]
        refine wpP_two ?_ ?_
        · refine wpP_loud rfl (by rfl) ?_
          intro K hK
          go_simp
          refine (within_capstanlaw7 x.id 256 _ (by omega) (by omega) HX.out.id.1 HX.out.id.2).mono ?_
          rintro e Vn ⟨rfl, rfl⟩
          rw [HI.out]
          refine hK.out _ _ trivial ?_
          clear hK K
          try simp only [Act.put, List.setIfInBounds_toArray, List.set_cons_zero, List.set_cons_succ]
          refine wpP_one ?_
          refine wpP_loud rfl (by rfl) ?_
          intro K hK
          go_simp
          refine hK.out _ _ trivial ?_
          clear hK K
          try simp only [Act.put, List.setIfInBounds_toArray, List.set_cons_zero, List.set_cons_succ]
          first | (refine wpP_quiet (v := ?_) rfl (by rfl) ?_ ?_; rotate_left; (· (intro w' hw'; go_simp; try with_reducible rfl)); simp only [Act.put, List.setIfInBounds_toArray, List.set_cons_zero, List.set_cons_succ]) | (refine wpP_skip rfl (by rfl) ?_; simp only [Act.put, List.setIfInBounds_toArray, List.set_cons_zero, List.set_cons_succ])
          refine wpP_one ?_
          refine wpP_loud rfl (by rfl) ?_
          intro K hK
          go_simp
          refine (within_capstanlaw7 x.bal 100 _ (by omega) (by omega) HX.out.bal.1 HX.out.bal.2).mono ?_
          rintro e Vn ⟨rfl, rfl⟩
          rw [HM.out]
          refine hK.out _ _ trivial ?_
          clear hK K
          try simp only [Act.put, List.setIfInBounds_toArray, List.set_cons_zero, List.set_cons_succ]
          first | (refine wpP_quiet (v := ?_) rfl (by rfl) ?_ ?_; rotate_left; (· (intro w' hw'; go_simp; try with_reducible rfl)); simp only [Act.put, List.setIfInBounds_toArray, List.set_cons_zero, List.set_cons_succ]) | (refine wpP_skip rfl (by rfl) ?_; simp only [Act.put, List.setIfInBounds_toArray, List.set_cons_zero, List.set_cons_succ])
          refine wpP_one ?_
          refine wpP_loud rfl (by rfl) ?_
          intro K hK
          go_simp
          refine (within_capstanlaw7 x.non 9 _ (by omega) (by omega) HX.out.non.1 HX.out.non.2).mono ?_
          rintro e Vn ⟨rfl, rfl⟩
          rw [HK.out]
          refine hK.out _ _ trivial ?_
          clear hK K
          try simp only [Act.put, List.setIfInBounds_toArray, List.set_cons_zero, List.set_cons_succ]
          refine wpP_one ?_
          refine wpP_loud rfl (by rfl) ?_
          intro K hK
          go_simp
          refine hK.out _ _ trivial ?_
          clear hK K
          try simp only [Act.put, List.setIfInBounds_toArray, List.set_cons_zero, List.set_cons_succ]
          first | (refine wpP_quiet (v := ?_) rfl (by rfl) ?_ ?_; rotate_left; (· (intro w' hw'; go_simp; try with_reducible rfl)); simp only [Act.put, List.setIfInBounds_toArray, List.set_cons_zero, List.set_cons_succ]) | (refine wpP_skip rfl (by rfl) ?_; simp only [Act.put, List.setIfInBounds_toArray, List.set_cons_zero, List.set_cons_succ])
          refine wpP_one ?_
          refine wpP_loud rfl (by rfl) ?_
          intro K hK
          go_simp
          refine hK.out _ _ trivial ?_
          clear hK K
          try simp only [Act.put, List.setIfInBounds_toArray, List.set_cons_zero, List.set_cons_succ]
          first | (refine wpP_quiet (v := ?_) rfl (by rfl) ?_ ?_; rotate_left; (· (intro w' hw'; go_simp; try with_reducible rfl)); simp only [Act.put, List.setIfInBounds_toArray, List.set_cons_zero, List.set_cons_succ]) | (refine wpP_skip rfl (by rfl) ?_; simp only [Act.put, List.setIfInBounds_toArray, List.set_cons_zero, List.set_cons_succ])
          refine wpP_one ?_
          refine wpP_loud rfl (by rfl) ?_
          intro K hK
          go_simp
          refine hK.out _ _ trivial ?_
          clear hK K
          try simp only [Act.put, List.setIfInBounds_toArray, List.set_cons_zero, List.set_cons_succ]
          refine wpP_done ?_
          exact ⟨rfl, midX rfl ⟨rfl, trivial⟩⟩
        · refine wpP_loud rfl (by rfl) ?_
          intro K hK
          go_simp
          refine hK.out _ _ trivial ?_
          clear hK K
          try simp only [Act.put, List.setIfInBounds_toArray, List.set_cons_zero, List.set_cons_succ]
          refine wpP_one ?_
          refine wpP_loud rfl (by rfl) ?_
          intro K hK
          go_simp
          refine (within_capstanlaw7 x.id 256 _ (by omega) (by omega) HX.out.id.1 HX.out.id.2).mono ?_
          rintro e Vn ⟨rfl, rfl⟩
          rw [HI.out]
          refine hK.out _ _ trivial ?_
          clear hK K
          try simp only [Act.put, List.setIfInBounds_toArray, List.set_cons_zero, List.set_cons_succ]
          first | (refine wpP_quiet (v := ?_) rfl (by rfl) ?_ ?_; rotate_left; (· (intro w' hw'; go_simp; try with_reducible rfl)); simp only [Act.put, List.setIfInBounds_toArray, List.set_cons_zero, List.set_cons_succ]) | (refine wpP_skip rfl (by rfl) ?_; simp only [Act.put, List.setIfInBounds_toArray, List.set_cons_zero, List.set_cons_succ])
          refine wpP_one ?_
          refine wpP_loud rfl (by rfl) ?_
          intro K hK
          go_simp
          refine (within_capstanlaw7 x.bal 100 _ (by omega) (by omega) HX.out.bal.1 HX.out.bal.2).mono ?_
          rintro e Vn ⟨rfl, rfl⟩
          rw [HM.out]
          refine hK.out _ _ trivial ?_
          clear hK K
          try simp only [Act.put, List.setIfInBounds_toArray, List.set_cons_zero, List.set_cons_succ]
          first | (refine wpP_quiet (v := ?_) rfl (by rfl) ?_ ?_; rotate_left; (· (intro w' hw'; go_simp; try with_reducible rfl)); simp only [Act.put, List.setIfInBounds_toArray, List.set_cons_zero, List.set_cons_succ]) | (refine wpP_skip rfl (by rfl) ?_; simp only [Act.put, List.setIfInBounds_toArray, List.set_cons_zero, List.set_cons_succ])
          refine wpP_one ?_
          refine wpP_loud rfl (by rfl) ?_
          intro K hK
          go_simp
          refine (within_capstanlaw7 x.non 9 _ (by omega) (by omega) HX.out.non.1 HX.out.non.2).mono ?_
          rintro e Vn ⟨rfl, rfl⟩
          rw [HK.out]
          refine hK.out _ _ trivial ?_
          clear hK K
          try simp only [Act.put, List.setIfInBounds_toArray, List.set_cons_zero, List.set_cons_succ]
          refine wpP_one ?_
          refine wpP_loud rfl (by rfl) ?_
          intro K hK
          go_simp
          refine hK.out _ _ trivial ?_
          clear hK K
          try simp only [Act.put, List.setIfInBounds_toArray, List.set_cons_zero, List.set_cons_succ]
          first | (refine wpP_quiet (v := ?_) rfl (by rfl) ?_ ?_; rotate_left; (· (intro w' hw'; go_simp; try with_reducible rfl)); simp only [Act.put, List.setIfInBounds_toArray, List.set_cons_zero, List.set_cons_succ]) | (refine wpP_skip rfl (by rfl) ?_; simp only [Act.put, List.setIfInBounds_toArray, List.set_cons_zero, List.set_cons_succ])
          refine wpP_one ?_
          refine wpP_loud rfl (by rfl) ?_
          intro K hK
          go_simp
          refine hK.out _ _ trivial ?_
          clear hK K
          try simp only [Act.put, List.setIfInBounds_toArray, List.set_cons_zero, List.set_cons_succ]
          first | (refine wpP_quiet (v := ?_) rfl (by rfl) ?_ ?_; rotate_left; (· (intro w' hw'; go_simp; try with_reducible rfl)); simp only [Act.put, List.setIfInBounds_toArray, List.set_cons_zero, List.set_cons_succ]) | (refine wpP_skip rfl (by rfl) ?_; simp only [Act.put, List.setIfInBounds_toArray, List.set_cons_zero, List.set_cons_succ])
          refine wpP_one ?_
          refine wpP_loud rfl (by rfl) ?_
          intro K hK
          go_simp
          refine hK.out _ _ trivial ?_
          clear hK K
          try simp only [Act.put, List.setIfInBounds_toArray, List.set_cons_zero, List.set_cons_succ]
          refine wpP_done ?_
          exact ⟨rfl, midX rfl ⟨rfl, trivial⟩⟩
    · refine wpP_loud rfl (by rfl) ?_
      intro K hK
      go_simp
      refine hK.out _ _ trivial ?_
      clear hK K
      try simp only [Act.put, List.setIfInBounds_toArray, List.set_cons_zero, List.set_cons_succ]
      refine wpP_two ?_ ?_
      · refine wpP_loud rfl (by rfl) ?_
        intro K hK
        go_simp
        refine hK.out _ _ trivial ?_
        clear hK K
        try simp only [Act.put, List.setIfInBounds_toArray, List.set_cons_zero, List.set_cons_succ]
        refine wpP_two ?_ ?_
        · refine wpP_loud rfl (by rfl) ?_
          intro K hK
          go_simp
          refine (within_capstanlaw7 x.id 256 _ (by omega) (by omega) HX.out.id.1 HX.out.id.2).mono ?_
          rintro e Vn ⟨rfl, rfl⟩
          rw [HI.out]
          refine hK.out _ _ trivial ?_
          clear hK K
          try simp only [Act.put, List.setIfInBounds_toArray, List.set_cons_zero, List.set_cons_succ]
          refine wpP_two ?_ ?_
          · refine wpP_loud rfl (by rfl) ?_
            intro K hK
            go_simp
            refine (within_capstanlaw7 x.bal 100 _ (by omega) (by omega) HX.out.bal.1 HX.out.bal.2).mono ?_
            rintro e Vn ⟨rfl, rfl⟩
            rw [HM.out]
            refine hK.out _ _ trivial ?_
            clear hK K
            try simp only [Act.put, List.setIfInBounds_toArray, List.set_cons_zero, List.set_cons_succ]
            first | (refine wpP_quiet (v := ?_) rfl (by rfl) ?_ ?_; rotate_left; (· (intro w' hw'; go_simp; try with_reducible rfl)); simp only [Act.put, List.setIfInBounds_toArray, List.set_cons_zero, List.set_cons_succ]) | (refine wpP_skip rfl (by rfl) ?_; simp only [Act.put, List.setIfInBounds_toArray, List.set_cons_zero, List.set_cons_succ])
            refine wpP_one ?_
            refine wpP_loud rfl (by rfl) ?_
            intro K hK
            go_simp
            refine hK.out _ _ trivial ?_
            clear hK K
            try simp only [Act.put, List.setIfInBounds_toArray, List.set_cons_zero, List.set_cons_succ]
            first | (refine wpP_quiet (v := ?_) rfl (by rfl) ?_ ?_; rotate_left; (· (intro w' hw'; go_simp; try with_reducible rfl)); simp only [Act.put, List.setIfInBounds_toArray, List.set_cons_zero, List.set_cons_succ]) | (refine wpP_skip rfl (by rfl) ?_; simp only [Act.put, List.setIfInBounds_toArray, List.set_cons_zero, List.set_cons_succ])
            refine wpP_one ?_
            refine wpP_loud rfl (by rfl) ?_
            intro K hK
            go_simp
            refine (within_capstanlaw7 x.non 9 _ (by omega) (by omega) HX.out.non.1 HX.out.non.2).mono ?_
            rintro e Vn ⟨rfl, rfl⟩
            rw [HK.out]
            refine hK.out _ _ trivial ?_
            clear hK K
            try simp only [Act.put, List.setIfInBounds_toArray, List.set_cons_zero, List.set_cons_succ]
            refine wpP_one ?_
            refine wpP_loud rfl (by rfl) ?_
            intro K hK
            go_simp
            refine hK.out _ _ trivial ?_
            clear hK K
            try simp only [Act.put, List.setIfInBounds_toArray, List.set_cons_zero, List.set_cons_succ]
            first | (refine wpP_quiet (v := ?_) rfl (by rfl) ?_ ?_; rotate_left; (· (intro w' hw'; go_simp; try with_reducible rfl)); simp only [Act.put, List.setIfInBounds_toArray, List.set_cons_zero, List.set_cons_succ]) | (refine wpP_skip rfl (by rfl) ?_; simp only [Act.put, List.setIfInBounds_toArray, List.set_cons_zero, List.set_cons_succ])
            refine wpP_one ?_
            refine wpP_loud rfl (by rfl) ?_
            intro K hK
            go_simp
            refine hK.out _ _ trivial ?_
            clear hK K
            try simp only [Act.put, List.setIfInBounds_toArray, List.set_cons_zero, List.set_cons_succ]
            first | (refine wpP_quiet (v := ?_) rfl (by rfl) ?_ ?_; rotate_left; (· (intro w' hw'; go_simp; try with_reducible rfl)); simp only [Act.put, List.setIfInBounds_toArray, List.set_cons_zero, List.set_cons_succ]) | (refine wpP_skip rfl (by rfl) ?_; simp only [Act.put, List.setIfInBounds_toArray, List.set_cons_zero, List.set_cons_succ])
            refine wpP_one ?_
            refine wpP_loud rfl (by rfl) ?_
            intro K hK
            go_simp
            refine hK.out _ _ trivial ?_
            clear hK K
            try simp only [Act.put, List.setIfInBounds_toArray, List.set_cons_zero, List.set_cons_succ]
            refine wpP_done ?_
            exact ⟨rfl, midX rfl ⟨rfl, trivial⟩⟩
          · refine wpP_loud rfl (by rfl) ?_
            intro K hK
            go_simp
            refine hK.out _ _ trivial ?_
            clear hK K
            try simp only [Act.put, List.setIfInBounds_toArray, List.set_cons_zero, List.set_cons_succ]
            first | (refine wpP_quiet (v := ?_) rfl (by rfl) ?_ ?_; rotate_left; (· (intro w' hw'; go_simp; try with_reducible rfl)); simp only [Act.put, List.setIfInBounds_toArray, List.set_cons_zero, List.set_cons_succ]) | (refine wpP_skip rfl (by rfl) ?_; simp only [Act.put, List.setIfInBounds_toArray, List.set_cons_zero, List.set_cons_succ])
            refine wpP_one ?_
            refine wpP_loud rfl (by rfl) ?_
            intro K hK
            go_simp
            refine (within_capstanlaw7 x.bal 100 _ (by omega) (by omega) HX.out.bal.1 HX.out.bal.2).mono ?_
            rintro e Vn ⟨rfl, rfl⟩
            rw [HM.out]
            refine hK.out _ _ trivial ?_
            clear hK K
            try simp only [Act.put, List.setIfInBounds_toArray, List.set_cons_zero, List.set_cons_succ]
            first | (refine wpP_quiet (v := ?_) rfl (by rfl) ?_ ?_; rotate_left; (· (intro w' hw'; go_simp; try with_reducible rfl)); simp only [Act.put, List.setIfInBounds_toArray, List.set_cons_zero, List.set_cons_succ]) | (refine wpP_skip rfl (by rfl) ?_; simp only [Act.put, List.setIfInBounds_toArray, List.set_cons_zero, List.set_cons_succ])
            refine wpP_one ?_
            refine wpP_loud rfl (by rfl) ?_
            intro K hK
            go_simp
            refine (within_capstanlaw7 x.non 9 _ (by omega) (by omega) HX.out.non.1 HX.out.non.2).mono ?_
            rintro e Vn ⟨rfl, rfl⟩
            rw [HK.out]
            refine hK.out _ _ trivial ?_
            clear hK K
            try simp only [Act.put, List.setIfInBounds_toArray, List.set_cons_zero, List.set_cons_succ]
            refine wpP_one ?_
            refine wpP_loud rfl (by rfl) ?_
            intro K hK
            go_simp
            refine hK.out _ _ trivial ?_
            clear hK K
            try simp only [Act.put, List.setIfInBounds_toArray, List.set_cons_zero, List.set_cons_succ]
            first | (refine wpP_quiet (v := ?_) rfl (by rfl) ?_ ?_; rotate_left; (· (intro w' hw'; go_simp; try with_reducible rfl)); simp only [Act.put, List.setIfInBounds_toArray, List.set_cons_zero, List.set_cons_succ]) | (refine wpP_skip rfl (by rfl) ?_; simp only [Act.put, List.setIfInBounds_toArray, List.set_cons_zero, List.set_cons_succ])
            refine wpP_one ?_
            refine wpP_loud rfl (by rfl) ?_
            intro K hK
            go_simp
            refine hK.out _ _ trivial ?_
            clear hK K
            try simp only [Act.put, List.setIfInBounds_toArray, List.set_cons_zero, List.set_cons_succ]
            first | (refine wpP_quiet (v := ?_) rfl (by rfl) ?_ ?_; rotate_left; (· (intro w' hw'; go_simp; try with_reducible rfl)); simp only [Act.put, List.setIfInBounds_toArray, List.set_cons_zero, List.set_cons_succ]) | (refine wpP_skip rfl (by rfl) ?_; simp only [Act.put, List.setIfInBounds_toArray, List.set_cons_zero, List.set_cons_succ])
            refine wpP_one ?_
            refine wpP_loud rfl (by rfl) ?_
            intro K hK
            go_simp
            refine hK.out _ _ trivial ?_
            clear hK K
            try simp only [Act.put, List.setIfInBounds_toArray, List.set_cons_zero, List.set_cons_succ]
            refine wpP_done ?_
            exact ⟨rfl, midX rfl ⟨rfl, trivial⟩⟩
        · refine wpP_loud rfl (by rfl) ?_
          intro K hK
          go_simp
          refine hK.out _ _ trivial ?_
          clear hK K
          try simp only [Act.put, List.setIfInBounds_toArray, List.set_cons_zero, List.set_cons_succ]
          refine wpP_one ?_
          refine wpP_loud rfl (by rfl) ?_
          intro K hK
          go_simp
          refine (within_capstanlaw7 x.id 256 _ (by omega) (by omega) HX.out.id.1 HX.out.id.2).mono ?_
          rintro e Vn ⟨rfl, rfl⟩
          rw [HI.out]
          refine hK.out _ _ trivial ?_
          clear hK K
          try simp only [Act.put, List.setIfInBounds_toArray, List.set_cons_zero, List.set_cons_succ]
          first | (refine wpP_quiet (v := ?_) rfl (by rfl) ?_ ?_; rotate_left; (· (intro w' hw'; go_simp; try with_reducible rfl)); simp only [Act.put, List.setIfInBounds_toArray, List.set_cons_zero, List.set_cons_succ]) | (refine wpP_skip rfl (by rfl) ?_; simp only [Act.put, List.setIfInBounds_toArray, List.set_cons_zero, List.set_cons_succ])
          refine wpP_one ?_
          refine wpP_loud rfl (by rfl) ?_
          intro K hK
          go_simp
          refine (within_capstanlaw7 x.bal 100 _ (by omega) (by omega) HX.out.bal.1 HX.out.bal.2).mono ?_
          rintro e Vn ⟨rfl, rfl⟩
          rw [HM.out]
          refine hK.out _ _ trivial ?_
          clear hK K
          try simp only [Act.put, List.setIfInBounds_toArray, List.set_cons_zero, List.set_cons_succ]
          first | (refine wpP_quiet (v := ?_) rfl (by rfl) ?_ ?_; rotate_left; (· (intro w' hw'; go_simp; try with_reducible rfl)); simp only [Act.put, List.setIfInBounds_toArray, List.set_cons_zero, List.set_cons_succ]) | (refine wpP_skip rfl (by rfl) ?_; simp only [Act.put, List.setIfInBounds_toArray, List.set_cons_zero, List.set_cons_succ])
          refine wpP_one ?_
          refine wpP_loud rfl (by rfl) ?_
          intro K hK
          go_simp
          refine (within_capstanlaw7 x.non 9 _ (by omega) (by omega) HX.out.non.1 HX.out.non.2).mono ?_
          rintro e Vn ⟨rfl, rfl⟩
          rw [HK.out]
          refine hK.out _ _ trivial ?_
          clear hK K
          try simp only [Act.put, List.setIfInBounds_toArray, List.set_cons_zero, List.set_cons_succ]
          refine wpP_one ?_
          refine wpP_loud rfl (by rfl) ?_
          intro K hK
          go_simp
          refine hK.out _ _ trivial ?_
          clear hK K
          try simp only [Act.put, List.setIfInBounds_toArray, List.set_cons_zero, List.set_cons_succ]
          first | (refine wpP_quiet (v := ?_) rfl (by rfl) ?_ ?_; rotate_left; (· (intro w' hw'; go_simp; try with_reducible rfl)); simp only [Act.put, List.setIfInBounds_toArray, List.set_cons_zero, List.set_cons_succ]) | (refine wpP_skip rfl (by rfl) ?_; simp only [Act.put, List.setIfInBounds_toArray, List.set_cons_zero, List.set_cons_succ])
          refine wpP_one ?_
          refine wpP_loud rfl (by rfl) ?_
          intro K hK
          go_simp
          refine hK.out _ _ trivial ?_
          clear hK K
          try simp only [Act.put, List.setIfInBounds_toArray, List.set_cons_zero, List.set_cons_succ]
          first | (refine wpP_quiet (v := ?_) rfl (by rfl) ?_ ?_; rotate_left; (· (intro w' hw'; go_simp; try with_reducible rfl)); simp only [Act.put, List.setIfInBounds_toArray, List.set_cons_zero, List.set_cons_succ]) | (refine wpP_skip rfl (by rfl) ?_; simp only [Act.put, List.setIfInBounds_toArray, List.set_cons_zero, List.set_cons_succ])
          refine wpP_one ?_
          refine wpP_loud rfl (by rfl) ?_
          intro K hK
          go_simp
          refine hK.out _ _ trivial ?_
          clear hK K
          try simp only [Act.put, List.setIfInBounds_toArray, List.set_cons_zero, List.set_cons_succ]
          refine wpP_done ?_
          exact ⟨rfl, midX rfl ⟨rfl, trivial⟩⟩
      · refine wpP_loud rfl (by rfl) ?_
        intro K hK
        go_simp
        refine hK.out _ _ trivial ?_
        clear hK K
        try simp only [Act.put, List.setIfInBounds_toArray, List.set_cons_zero, List.set_cons_succ]
        refine wpP_one ?_
        refine wpP_loud rfl (by rfl) ?_
        intro K hK
        go_simp
        refine hK.out _ _ trivial ?_
        clear hK K
        try simp only [Act.put, List.setIfInBounds_toArray, List.set_cons_zero, List.set_cons_succ]
        refine wpP_one ?_
        refine wpP_loud rfl (by rfl) ?_
        intro K hK
        go_simp
        refine (within_capstanlaw7 x.id 256 _ (by omega) (by omega) HX.out.id.1 HX.out.id.2).mono ?_
        rintro e Vn ⟨rfl, rfl⟩
        rw [HI.out]
        refine hK.out _ _ trivial ?_
        clear hK K
        try simp only [Act.put, List.setIfInBounds_toArray, List.set_cons_zero, List.set_cons_succ]
        first | (refine wpP_quiet (v := ?_) rfl (by rfl) ?_ ?_; rotate_left; (· (intro w' hw'; go_simp; try with_reducible rfl)); simp only [Act.put, List.setIfInBounds_toArray, List.set_cons_zero, List.set_cons_succ]) | (refine wpP_skip rfl (by rfl) ?_; simp only [Act.put, List.setIfInBounds_toArray, List.set_cons_zero, List.set_cons_succ])
        refine wpP_one ?_
        refine wpP_loud rfl (by rfl) ?_
        intro K hK
        go_simp
        refine (within_capstanlaw7 x.bal 100 _ (by omega) (by omega) HX.out.bal.1 HX.out.bal.2).mono ?_
        rintro e Vn ⟨rfl, rfl⟩
        rw [HM.out]
        refine hK.out _ _ trivial ?_
        clear hK K
        try simp only [Act.put, List.setIfInBounds_toArray, List.set_cons_zero, List.set_cons_succ]
        first | (refine wpP_quiet (v := ?_) rfl (by rfl) ?_ ?_; rotate_left; (· (intro w' hw'; go_simp; try with_reducible rfl)); simp only [Act.put, List.setIfInBounds_toArray, List.set_cons_zero, List.set_cons_succ]) | (refine wpP_skip rfl (by rfl) ?_; simp only [Act.put, List.setIfInBounds_toArray, List.set_cons_zero, List.set_cons_succ])
        refine wpP_one ?_
        refine wpP_loud rfl (by rfl) ?_
        intro K hK
        go_simp
        refine (within_capstanlaw7 x.non 9 _ (by omega) (by omega) HX.out.non.1 HX.out.non.2).mono ?_
        rintro e Vn ⟨rfl, rfl⟩
        rw [HK.out]
        refine hK.out _ _ trivial ?_
        clear hK K
        try simp only [Act.put, List.setIfInBounds_toArray, List.set_cons_zero, List.set_cons_succ]
        refine wpP_one ?_
        refine wpP_loud rfl (by rfl) ?_
        intro K hK
        go_simp
        refine hK.out _ _ trivial ?_
        clear hK K
        try simp only [Act.put, List.setIfInBounds_toArray, List.set_cons_zero, List.set_cons_succ]
        first | (refine wpP_quiet (v := ?_) rfl (by rfl) ?_ ?_; rotate_left; (· (intro w' hw'; go_simp; try with_reducible rfl)); simp only [Act.put, List.setIfInBounds_toArray, List.set_cons_zero, List.set_cons_succ]) | (refine wpP_skip rfl (by rfl) ?_; simp only [Act.put, List.setIfInBounds_toArray, List.set_cons_zero, List.set_cons_succ])
        refine wpP_one ?_
        refine wpP_loud rfl (by rfl) ?_
        intro K hK
        go_simp
        refine hK.out _ _ trivial ?_
        clear hK K
        try simp only [Act.put, List.setIfInBounds_toArray, List.set_cons_zero, List.set_cons_succ]
        first | (refine wpP_quiet (v := ?_) rfl (by rfl) ?_ ?_; rotate_left; (· (intro w' hw'; go_simp; try with_reducible rfl)); simp only [Act.put, List.setIfInBounds_toArray, List.set_cons_zero, List.set_cons_succ]) | (refine wpP_skip rfl (by rfl) ?_; simp only [Act.put, List.setIfInBounds_toArray, List.set_cons_zero, List.set_cons_succ])
        refine wpP_one ?_
        refine wpP_loud rfl (by rfl) ?_
        intro K hK
        go_simp
        refine hK.out _ _ trivial ?_
        clear hK K
        try simp only [Act.put, List.setIfInBounds_toArray, List.set_cons_zero, List.set_cons_succ]
        refine wpP_done ?_
        exact ⟨rfl, midX rfl ⟨rfl, trivial⟩⟩
    · refine wpP_loud rfl (by rfl) ?_
      intro K hK
      go_simp
      refine hK.out _ _ trivial ?_
      clear hK K
      try simp only [Act.put, List.setIfInBounds_toArray, List.set_cons_zero, List.set_cons_succ]
      refine wpP_two ?_ ?_
      · refine wpP_loud rfl (by rfl) ?_
        intro K hK
        go_simp
        refine hK.out _ _ trivial ?_
        clear hK K
        try simp only [Act.put, List.setIfInBounds_toArray, List.set_cons_zero, List.set_cons_succ]
        refine wpP_two ?_ ?_
        · refine wpP_loud rfl (by rfl) ?_
          intro K hK
          go_simp
          refine (within_capstanlaw7 x.id 256 _ (by omega) (by omega) HX.out.id.1 HX.out.id.2).mono ?_
          rintro e Vn ⟨rfl, rfl⟩
          rw [HI.out]
          refine hK.out _ _ trivial ?_
          clear hK K
          try simp only [Act.put, List.setIfInBounds_toArray, List.set_cons_zero, List.set_cons_succ]
          refine wpP_one ?_
          refine wpP_loud rfl (by rfl) ?_
          intro K hK
          go_simp
          refine hK.out _ _ trivial ?_
          clear hK K
          try simp only [Act.put, List.setIfInBounds_toArray, List.set_cons_zero, List.set_cons_succ]
          first | (refine wpP_quiet (v := ?_) rfl (by rfl) ?_ ?_; rotate_left; (· (intro w' hw'; go_simp; try with_reducible rfl)); simp only [Act.put, List.setIfInBounds_toArray, List.set_cons_zero, List.set_cons_succ]) | (refine wpP_skip rfl (by rfl) ?_; simp only [Act.put, List.setIfInBounds_toArray, List.set_cons_zero, List.set_cons_succ])
          refine wpP_one ?_
          refine wpP_loud rfl (by rfl) ?_
          intro K hK
          go_simp
          refine (within_capstanlaw7 x.bal 100 _ (by omega) (by omega) HX.out.bal.1 HX.out.bal.2).mono ?_
          rintro e Vn ⟨rfl, rfl⟩
          rw [HM.out]
          refine hK.out _ _ trivial ?_
          clear hK K
          try simp only [Act.put, List.setIfInBounds_toArray, List.set_cons_zero, List.set_cons_succ]
          first | (refine wpP_quiet (v := ?_) rfl (by rfl) ?_ ?_; rotate_left; (· (intro w' hw'; go_simp; try with_reducible rfl)); simp only [Act.put, List.setIfInBounds_toArray, List.set_cons_zero, List.set_cons_succ]) | (refine wpP_skip rfl (by rfl) ?_; simp only [Act.put, List.setIfInBounds_toArray, List.set_cons_zero, List.set_cons_succ])
          refine wpP_one ?_
          refine wpP_loud rfl (by rfl) ?_
          intro K hK
          go_simp
          refine (within_capstanlaw7 x.non 9 _ (by omega) (by omega) HX.out.non.1 HX.out.non.2).mono ?_
          rintro e Vn ⟨rfl, rfl⟩
          rw [HK.out]
          refine hK.out _ _ trivial ?_
          clear hK K
          try simp only [Act.put, List.setIfInBounds_toArray, List.set_cons_zero, List.set_cons_succ]
          refine wpP_one ?_
          refine wpP_loud rfl (by rfl) ?_
          intro K hK
          go_simp
          refine hK.out _ _ trivial ?_
          clear hK K
          try simp only [Act.put, List.setIfInBounds_toArray, List.set_cons_zero, List.set_cons_succ]
          first | (refine wpP_quiet (v := ?_) rfl (by rfl) ?_ ?_; rotate_left; (· (intro w' hw'; go_simp; try with_reducible rfl)); simp only [Act.put, List.setIfInBounds_toArray, List.set_cons_zero, List.set_cons_succ]) | (refine wpP_skip rfl (by rfl) ?_; simp only [Act.put, List.setIfInBounds_toArray, List.set_cons_zero, List.set_cons_succ])
          refine wpP_one ?_
          refine wpP_loud rfl (by rfl) ?_
          intro K hK
          go_simp
          refine hK.out _ _ trivial ?_
          clear hK K
          try simp only [Act.put, List.setIfInBounds_toArray, List.set_cons_zero, List.set_cons_succ]
          first | (refine wpP_quiet (v := ?_) rfl (by rfl) ?_ ?_; rotate_left; (· (intro w' hw'; go_simp; try with_reducible rfl)); simp only [Act.put, List.setIfInBounds_toArray, List.set_cons_zero, List.set_cons_succ]) | (refine wpP_skip rfl (by rfl) ?_; simp only [Act.put, List.setIfInBounds_toArray, List.set_cons_zero, List.set_cons_succ])
          refine wpP_one ?_
          refine wpP_loud rfl (by rfl) ?_
          intro K hK
          go_simp
          refine hK.out _ _ trivial ?_
          clear hK K
          try simp only [Act.put, List.setIfInBounds_toArray, List.set_cons_zero, List.set_cons_succ]
          refine wpP_done ?_
          exact ⟨rfl, midX rfl ⟨rfl, trivial⟩⟩
        · refine wpP_loud rfl (by rfl) ?_
          intro K hK
          go_simp
          refine hK.out _ _ trivial ?_
          clear hK K
          try simp only [Act.put, List.setIfInBounds_toArray, List.set_cons_zero, List.set_cons_succ]
          refine wpP_one ?_
          refine wpP_loud rfl (by rfl) ?_
          intro K hK
          go_simp
          refine (within_capstanlaw7 x.id 256 _ (by omega) (by omega) HX.out.id.1 HX.out.id.2).mono ?_
          rintro e Vn ⟨rfl, rfl⟩
          rw [HI.out]
          refine hK.out _ _ trivial ?_
          clear hK K
          try simp only [Act.put, List.setIfInBounds_toArray, List.set_cons_zero, List.set_cons_succ]
          first | (refine wpP_quiet (v := ?_) rfl (by rfl) ?_ ?_; rotate_left; (· (intro w' hw'; go_simp; try with_reducible rfl)); simp only [Act.put, List.setIfInBounds_toArray, List.set_cons_zero, List.set_cons_succ]) | (refine wpP_skip rfl (by rfl) ?_; simp only [Act.put, List.setIfInBounds_toArray, List.set_cons_zero, List.set_cons_succ])
          refine wpP_one ?_
          refine wpP_loud rfl (by rfl) ?_
          intro K hK
          go_simp
          refine (within_capstanlaw7 x.bal 100 _ (by omega) (by omega) HX.out.bal.1 HX.out.bal.2).mono ?_
          rintro e Vn ⟨rfl, rfl⟩
          rw [HM.out]
          refine hK.out _ _ trivial ?_
          clear hK K
          try simp only [Act.put, List.setIfInBounds_toArray, List.set_cons_zero, List.set_cons_succ]
          first | (refine wpP_quiet (v := ?_) rfl (by rfl) ?_ ?_; rotate_left; (· (intro w' hw'; go_simp; try with_reducible rfl)); simp only [Act.put, List.setIfInBounds_toArray, List.set_cons_zero, List.set_cons_succ]) | (refine wpP_skip rfl (by rfl) ?_; simp only [Act.put, List.setIfInBounds_toArray, List.set_cons_zero, List.set_cons_succ])
          refine wpP_one ?_
          refine wpP_loud rfl (by rfl) ?_
          intro K hK
          go_simp
          refine (within_capstanlaw7 x.non 9 _ (by omega) (by omega) HX.out.non.1 HX.out.non.2).mono ?_
          rintro e Vn ⟨rfl, rfl⟩
          rw [HK.out]
          refine hK.out _ _ trivial ?_
          clear hK K
          try simp only [Act.put, List.setIfInBounds_toArray, List.set_cons_zero, List.set_cons_succ]
          refine wpP_one ?_
          refine wpP_loud rfl (by rfl) ?_
          intro K hK
          go_simp
          refine hK.out _ _ trivial ?_
          clear hK K
          try simp only [Act.put, List.setIfInBounds_toArray, List.set_cons_zero, List.set_cons_succ]
          first | (refine wpP_quiet (v := ?_) rfl (by rfl) ?_ ?_; rotate_left; (· (intro w' hw'; go_simp; try with_reducible rfl)); simp only [Act.put, List.setIfInBounds_toArray, List.set_cons_zero, List.set_cons_succ]) | (refine wpP_skip rfl (by rfl) ?_; simp only [Act.put, List.setIfInBounds_toArray, List.set_cons_zero, List.set_cons_succ])
          refine wpP_one ?_
          refine wpP_loud rfl (by rfl) ?_
          intro K hK
          go_simp
          refine hK.out _ _ trivial ?_
          clear hK K
          try simp only [Act.put, List.setIfInBounds_toArray, List.set_cons_zero, List.set_cons_succ]
          first | (refine wpP_quiet (v := ?_) rfl (by rfl) ?_ ?_; rotate_left; (· (intro w' hw'; go_simp; try with_reducible rfl)); simp only [Act.put, List.setIfInBounds_toArray, List.set_cons_zero, List.set_cons_succ]) | (refine wpP_skip rfl (by rfl) ?_; simp only [Act.put, List.setIfInBounds_toArray, List.set_cons_zero, List.set_cons_succ])
          refine wpP_one ?_
          refine wpP_loud rfl (by rfl) ?_
          intro K hK
          go_simp
          refine hK.out _ _ trivial ?_
          clear hK K
          try simp only [Act.put, List.setIfInBounds_toArray, List.set_cons_zero, List.set_cons_succ]
          refine wpP_done ?_
          exact ⟨rfl, midX rfl ⟨rfl, trivial⟩⟩
      · refine wpP_loud rfl (by rfl) ?_
        intro K hK
        go_simp
        refine hK.out _ _ trivial ?_
        clear hK K
        try simp only [Act.put, List.setIfInBounds_toArray, List.set_cons_zero, List.set_cons_succ]
        refine wpP_one ?_
        refine wpP_loud rfl (by rfl) ?_
        intro K hK
        go_simp
        refine hK.out _ _ trivial ?_
        clear hK K
        try simp only [Act.put, List.setIfInBounds_toArray, List.set_cons_zero, List.set_cons_succ]
        refine wpP_one ?_
        refine wpP_loud rfl (by rfl) ?_
        intro K hK
        go_simp
        refine (within_capstanlaw7 x.id 256 _ (by omega) (by omega) HX.out.id.1 HX.out.id.2).mono ?_
        rintro e Vn ⟨rfl, rfl⟩
        rw [HI.out]
        refine hK.out _ _ trivial ?_
        clear hK K
        try simp only [Act.put, List.setIfInBounds_toArray, List.set_cons_zero, List.set_cons_succ]
        first | (refine wpP_quiet (v := ?_) rfl (by rfl) ?_ ?_; rotate_left; (· (intro w' hw'; go_simp; try with_reducible rfl)); simp only [Act.put, List.setIfInBounds_toArray, List.set_cons_zero, List.set_cons_succ]) | (refine wpP_skip rfl (by rfl) ?_; simp only [Act.put, List.setIfInBounds_toArray, List.set_cons_zero, List.set_cons_succ])
        refine wpP_one ?_
        refine wpP_loud rfl (by rfl) ?_
        intro K hK
        go_simp
        refine (within_capstanlaw7 x.bal 100 _ (by omega) (by omega) HX.out.bal.1 HX.out.bal.2).mono ?_
        rintro e Vn ⟨rfl, rfl⟩
        rw [HM.out]
        refine hK.out _ _ trivial ?_
        clear hK K
        try simp only [Act.put, List.setIfInBounds_toArray, List.set_cons_zero, List.set_cons_succ]
        first | (refine wpP_quiet (v := ?_) rfl (by rfl) ?_ ?_; rotate_left; (· (intro w' hw'; go_simp; try with_reducible rfl)); simp only [Act.put, List.setIfInBounds_toArray, List.set_cons_zero, List.set_cons_succ]) | (refine wpP_skip rfl (by rfl) ?_; simp only [Act.put, List.setIfInBounds_toArray, List.set_cons_zero, List.set_cons_succ])
        refine wpP_one ?_
        refine wpP_loud rfl (by rfl) ?_
        intro K hK
        go_simp
        refine (within_capstanlaw7 x.non 9 _ (by omega) (by omega) HX.out.non.1 HX.out.non.2).mono ?_
        rintro e Vn ⟨rfl, rfl⟩
        rw [HK.out]
        refine hK.out _ _ trivial ?_
        clear hK K
        try simp only [Act.put, List.setIfInBounds_toArray, List.set_cons_zero, List.set_cons_succ]
        refine wpP_one ?_
        refine wpP_loud rfl (by rfl) ?_
        intro K hK
        go_simp
        refine hK.out _ _ trivial ?_
        clear hK K
        try simp only [Act.put, List.setIfInBounds_toArray, List.set_cons_zero, List.set_cons_succ]
        first | (refine wpP_quiet (v := ?_) rfl (by rfl) ?_ ?_; rotate_left; (· (intro w' hw'; go_simp; try with_reducible rfl)); simp only [Act.put, List.setIfInBounds_toArray, List.set_cons_zero, List.set_cons_succ]) | (refine wpP_skip rfl (by rfl) ?_; simp only [Act.put, List.setIfInBounds_toArray, List.set_cons_zero, List.set_cons_succ])
        refine wpP_one ?_
        refine wpP_loud rfl (by rfl) ?_
        intro K hK
        go_simp
        refine hK.out _ _ trivial ?_
        clear hK K
        try simp only [Act.put, List.setIfInBounds_toArray, List.set_cons_zero, List.set_cons_succ]
        first | (refine wpP_quiet (v := ?_) rfl (by rfl) ?_ ?_; rotate_left; (· (intro w' hw'; go_simp; try with_reducible rfl)); simp only [Act.put, List.setIfInBounds_toArray, List.set_cons_zero, List.set_cons_succ]) | (refine wpP_skip rfl (by rfl) ?_; simp only [Act.put, List.setIfInBounds_toArray, List.set_cons_zero, List.set_cons_succ])
        refine wpP_one ?_
        refine wpP_loud rfl (by rfl) ?_
        intro K hK
        go_simp
        refine hK.out _ _ trivial ?_
        clear hK K
        try simp only [Act.put, List.setIfInBounds_toArray, List.set_cons_zero, List.set_cons_succ]
        refine wpP_done ?_
        exact ⟨rfl, midX rfl ⟨rfl, trivial⟩⟩
  case mid =>
    rintro e aa w' ⟨rfl, u, rfl, rfl, -⟩
    have bad := hq0
    have fd := fd0
    clear hq0 fd0 hV1 ba1 f1
    generalize V1 = V0 at *
    have baC : Blk (((V0.setCell ⟨w.heap.size, 0, none⟩ (.int .i64 i)).setCell ⟨w.heap.size, 1, none⟩ (.int .i64 (1 + m))).setCell ⟨w.heap.size, 2, none⟩ (.int .i64 k)) w.heap.size 23 (accC (Acc.mk i (1 + m) k x.dat)) := ((bad.set_ 0 _).set_ 1 _).set_ 2 _
    have fC : Below w.heap.size w (((V0.setCell ⟨w.heap.size, 0, none⟩ (.int .i64 i)).setCell ⟨w.heap.size, 1, none⟩ (.int .i64 (1 + m))).setCell ⟨w.heap.size, 2, none⟩ (.int .i64 k)) := fd.trans (below_but (RBut.trans_ _ _ _ _ (RBut.trans_ _ _ _ _ (RBut.setC _ _ _ _) (RBut.setC _ _ _ _)) (RBut.setC _ _ _ _)) (Nat.le_refl _) fd.size)
    generalize ((V0.setCell ⟨w.heap.size, 0, none⟩ (.int .i64 i)).setCell ⟨w.heap.size, 1, none⟩ (.int .i64 (1 + m))).setCell ⟨w.heap.size, 2, none⟩ (.int .i64 k) = wB at *
    clear bad fd d0 d1 d2 d3 k0 k1 k2 k3 wm
    obtain ⟨-, k0, k1, k2, k3⟩ := acc_cells baC
    go_wp2_with fail
    have h9 : Below wB.heap.size wB (wB.alloc (.cells #[.int .i64 i, .int .i64 (1 + m), .int .i64 k, .int .i64 x.dat] 23)) := (Below.refl _ _).alloc (Nat.le_refl _) _
    have by9 : Blk (wB.alloc (.cells #[.int .i64 i, .int .i64 (1 + m), .int .i64 k, .int .i64 x.dat] 23)) wB.heap.size 23 (accC (Acc.mk i (1 + m) k x.dat)) := Blk.new wB #[.int .i64 i, .int .i64 (1 + m), .int .i64 k, .int .i64 x.dat] 23
    have ba3 := baC
    have f3 := fC
    have hf3 := fC.size
    clear baC fC k0 k1 k2 k3
    generalize wB.alloc (.cells #[.int .i64 i, .int .i64 (1 + m), .int .i64 k, .int .i64 x.dat] 23) = wC at *
    refine (within_capstanlaw7 b 4 wC (by omega) (by omega) b_lo b_hi).mono ?_
    rintro e wC' ⟨rfl, rfl⟩
    obtain ⟨⟨d0, d1, d2, d3⟩, k0, k1, k2, k3⟩ := acc_cells by9
    have HAW : Hid (Acc.wf (Acc.mk i (1 + m) k x.dat)) := (show Acc.wf _ from ⟨by show _ ∧ _; simp only []; omega, by show _ ∧ _; simp only []; omega, by show _ ∧ _; simp only []; omega, HX.out.dat⟩)
    have HNW : Hid (Acc.wf (Acc.mk i 0 0 0)) := (show Acc.wf _ from ⟨by show _ ∧ _; simp only []; omega, by show _ ∧ _; simp only []; omega, by show _ ∧ _; simp only []; omega, by show _ ∧ _; simp only []; omega⟩)
    have HLN : Hid (leafS (Acc.mk i 0 0 0) = zero32) := (show _ = _ by unfold leafS; rw [if_pos ⟨rfl, rfl, rfl⟩])
    obtain ⟨l1, hl1⟩ : ∃ l, leafS (Acc.mk i (1 + m) k x.dat) = l := ⟨_, rfl⟩
    have HL := Lib.hid hl1
    have HL1 : Hid (l1.length = 32) := (show _ = _ by rw [← hl1]; exact leafS_len _)
    have hdat := HX.out.dat
    clear hl1
    have h4 : b % 4 = 0 ∨ b % 4 = 1 ∨ b % 4 = 2 ∨ b % 4 = 3 := by omega
    rcases h4 with h4 | h4 | h4 | h4
    · rw [h4]
      go_wp2_with fail
      obtain ⟨o, ho⟩ : ∃ o, (i + 1) % 256 = o := ⟨_, rfl⟩
      have ho1 : 0 ≤ o ∧ o < 256 := by omega
      rw [ho]
      clear ho
      have hY : Below wB.heap.size wB (wC.setCell ⟨wB.heap.size, 0, none⟩ (.int .i64 (o))) := h9.trans (below_but (RBut.setC _ _ _ _) (Nat.le_refl _) h9.size)
      have bbY : Blk ((wC.setCell ⟨wB.heap.size, 0, none⟩ (.int .i64 (o)))) wB.heap.size 23 (accC (Acc.mk o (1 + m) k x.dat)) := by9.set_ 0 _
      generalize (wC.setCell ⟨wB.heap.size, 0, none⟩ (.int .i64 (o))) = wY at *
      have baY := ba3.to hY
      have fY := f3.trans (hY.mono f3.size)
      clear hY h9 by9 ba3 f3 d0 d1 d2 d3 k0 k1 k2 k3 h4
      have HBW : Hid (Acc.wf (Acc.mk o (1 + m) k x.dat)) := (show Acc.wf _ from ⟨by show _ ∧ _; simp only []; omega, by show _ ∧ _; simp only []; omega, by show _ ∧ _; simp only []; omega, by show _ ∧ _; simp only []; omega⟩)
      obtain ⟨l2, hl2⟩ : ∃ l, leafS (Acc.mk o (1 + m) k x.dat) = l := ⟨_, rfl⟩
      have HLB := Lib.hid hl2
      have HL2 : Hid (l2.length = 32) := (show _ = _ by rw [← hl2]; exact leafS_len _)
      clear hl2
      refine wp_region_P (.take 0 (.take 2 (.one 1 (.one 3 (.take 4 (.take 5 (.take 6 (.take 8 (.one 7 (.one 9 (.take 10 (.take 11 (.take 12 (.take 13 (.take 14 (.take 15 (.take 17 (.one 16 (.take 18 (.take 19 (.take 20 .done))))))))))))))))))))) (Below wY.drew.heap.size) (by kernel_rfl) (by kernel_rfl) (by kernel_rfl) (by decide +kernel) (Below.refl _) (fun _ _ _ => Below.trans) (by intro d v c a w h; first | (cases d <;> exact h) | exact absurd h.1 (by simp)) ?_
      have bad : Blk wY.drew w.heap.size 23 (accC (Acc.mk i (1 + m) k x.dat)) := baY
      have bbd : Blk wY.drew wB.heap.size 23 (accC (Acc.mk o (1 + m) k x.dat)) := bbY
      have fd : Below w.heap.size w wY.drew := fY.drew
      clear baY bbY fY
      generalize wY.drew = V0 at *
      have fb : Below V0.heap.size V0 V0 := Below.refl _ _
      have hNa := bad.lt
      have hNb := bbd.lt
      refine wpP_load rfl (by rfl) _ _ rfl w.heap.size 0 rfl (accC (Acc.mk i (1 + m) k x.dat)) _ (fun w' h => (bad.below (fb.trans h) hNa).range) Try.underlying23 rfl info_acc ?_
      simp only [Act.put, List.setIfInBounds_toArray, List.set_cons_zero, List.set_cons_succ]
      refine wpP_load rfl (by rfl) _ _ rfl w.heap.size 0 rfl (accC (Acc.mk i (1 + m) k x.dat)) _ (fun w' h => (bad.below (fb.trans h) hNa).range) Try.underlying23 rfl info_acc ?_
      simp only [Act.put, List.setIfInBounds_toArray, List.set_cons_zero, List.set_cons_succ]
      refine wpP_one ?_
      refine wpP_loud rfl (by rfl) ?_
      intro K hK
      go_simp
      refine (leaf_any (Acc.mk i (1 + m) k x.dat) HAW.out _).mono ?_
      rintro e Vn ⟨rfl, hb⟩
      rw [HL.out]
      unfold hv
      refine hK.out _ _ (hb.mono fb.size) ?_
      clear hK K
      try simp only [Act.put, List.setIfInBounds_toArray, List.set_cons_zero, List.set_cons_succ]
      replace fb := fb.trans (hb.mono fb.size)
      clear hb
      refine wpP_one ?_
      refine wpP_loud rfl (by rfl) ?_
      intro K hK
      go_simp
      refine (refLeaf_any (Acc.mk i (1 + m) k x.dat) HAW.out _).mono ?_
      rintro e Vn ⟨rfl, hb⟩
      rw [HL.out]
      unfold hv
      refine hK.out _ _ (hb.mono fb.size) ?_
      clear hK K
      try simp only [Act.put, List.setIfInBounds_toArray, List.set_cons_zero, List.set_cons_succ]
      replace fb := fb.trans (hb.mono fb.size)
      clear hb
      have eqk := eq_self l1 HL1.out
      first | (refine wpP_quiet (v := ?_) rfl (by rfl) ?_ ?_; rotate_left; (· (intro w' hw'; go_simp; try with_reducible rfl)); simp only [Act.put, List.setIfInBounds_toArray, List.set_cons_zero, List.set_cons_succ]) | (refine wpP_skip rfl (by rfl) ?_; simp only [Act.put, List.setIfInBounds_toArray, List.set_cons_zero, List.set_cons_succ])
      clear eqk
      first | (refine wpP_quiet (v := ?_) rfl (by rfl) ?_ ?_; rotate_left; (· (intro w' hw'; go_simp; try with_reducible rfl)); simp only [Act.put, List.setIfInBounds_toArray, List.set_cons_zero, List.set_cons_succ]) | (refine wpP_skip rfl (by rfl) ?_; simp only [Act.put, List.setIfInBounds_toArray, List.set_cons_zero, List.set_cons_succ])
      refine wpP_load rfl (by rfl) _ _ rfl wB.heap.size 0 rfl (accC (Acc.mk o (1 + m) k x.dat)) _ (fun w' h => (bbd.below (fb.trans h) hNb).range) Try.underlying23 rfl info_acc ?_
      simp only [Act.put, List.setIfInBounds_toArray, List.set_cons_zero, List.set_cons_succ]
      refine wpP_load rfl (by rfl) _ _ rfl wB.heap.size 0 rfl (accC (Acc.mk o (1 + m) k x.dat)) _ (fun w' h => (bbd.below (fb.trans h) hNb).range) Try.underlying23 rfl info_acc ?_
      simp only [Act.put, List.setIfInBounds_toArray, List.set_cons_zero, List.set_cons_succ]
      refine wpP_one ?_
      refine wpP_loud rfl (by rfl) ?_
      intro K hK
      go_simp
      refine (leaf_any (Acc.mk o (1 + m) k x.dat) HBW.out _).mono ?_
      rintro e Vn ⟨rfl, hb⟩
      rw [HLB.out]
      unfold hv
      refine hK.out _ _ (hb.mono fb.size) ?_
      clear hK K
      try simp only [Act.put, List.setIfInBounds_toArray, List.set_cons_zero, List.set_cons_succ]
      replace fb := fb.trans (hb.mono fb.size)
      clear hb
      refine wpP_one ?_
      refine wpP_loud rfl (by rfl) ?_
      intro K hK
      go_simp
      refine (refLeaf_any (Acc.mk o (1 + m) k x.dat) HBW.out _).mono ?_
      rintro e Vn ⟨rfl, hb⟩
      rw [HLB.out]
      unfold hv
      refine hK.out _ _ (hb.mono fb.size) ?_
      clear hK K
      try simp only [Act.put, List.setIfInBounds_toArray, List.set_cons_zero, List.set_cons_succ]
      replace fb := fb.trans (hb.mono fb.size)
      clear hb
      have eqk := eq_self l2 HL2.out
      first | (refine wpP_quiet (v := ?_) rfl (by rfl) ?_ ?_; rotate_left; (· (intro w' hw'; go_simp; try with_reducible rfl)); simp only [Act.put, List.setIfInBounds_toArray, List.set_cons_zero, List.set_cons_succ]) | (refine wpP_skip rfl (by rfl) ?_; simp only [Act.put, List.setIfInBounds_toArray, List.set_cons_zero, List.set_cons_succ])
      clear eqk
      first | (refine wpP_quiet (v := ?_) rfl (by rfl) ?_ ?_; rotate_left; (· (intro w' hw'; go_simp; try with_reducible rfl)); simp only [Act.put, List.setIfInBounds_toArray, List.set_cons_zero, List.set_cons_succ]) | (refine wpP_skip rfl (by rfl) ?_; simp only [Act.put, List.setIfInBounds_toArray, List.set_cons_zero, List.set_cons_succ])
      first | (refine wpP_quiet (v := ?_) rfl (by rfl) ?_ ?_; rotate_left; (· (intro w' hw'; go_simp; try with_reducible rfl)); simp only [Act.put, List.setIfInBounds_toArray, List.set_cons_zero, List.set_cons_succ]) | (refine wpP_skip rfl (by rfl) ?_; simp only [Act.put, List.setIfInBounds_toArray, List.set_cons_zero, List.set_cons_succ])
      first | (refine wpP_quiet (v := ?_) rfl (by rfl) ?_ ?_; rotate_left; (· (intro w' hw'; go_simp; try with_reducible rfl)); simp only [Act.put, List.setIfInBounds_toArray, List.set_cons_zero, List.set_cons_succ]) | (refine wpP_skip rfl (by rfl) ?_; simp only [Act.put, List.setIfInBounds_toArray, List.set_cons_zero, List.set_cons_succ])
      refine wpP_quiet (v := .int .i64 i) rfl (by rfl) (fun w' hw' => by (have kq := (acc_cells (bad.below (fb.trans hw') hNa)).2.1; go_simp; try with_reducible rfl)) ?_
      simp only [Act.put, List.setIfInBounds_toArray, List.set_cons_zero, List.set_cons_succ]
      refine wpP_build rfl (by rfl) _ _ rfl _ (built_id i) ?_
      simp only [Act.put, List.setIfInBounds_toArray, List.set_cons_zero, List.set_cons_succ]
      refine wpP_build rfl (by rfl) _ _ rfl _ built_zero_ ?_
      simp only [Act.put, List.setIfInBounds_toArray, List.set_cons_zero, List.set_cons_succ]
      refine wpP_one ?_
      refine wpP_loud rfl (by rfl) ?_
      intro K hK
      go_simp
      refine (leaf_any (Acc.mk i 0 0 0) HNW.out _).mono ?_
      rintro e Vn ⟨rfl, hb⟩
      rw [HLN.out]
      unfold hv
      refine hK.out _ _ (hb.mono fb.size) ?_
      clear hK K
      try simp only [Act.put, List.setIfInBounds_toArray, List.set_cons_zero, List.set_cons_succ]
      replace fb := fb.trans (hb.mono fb.size)
      clear hb
      have eqk := eq_self zero32 rfl
      first | (refine wpP_quiet (v := ?_) rfl (by rfl) ?_ ?_; rotate_left; (· (intro w' hw'; go_simp; try with_reducible rfl)); simp only [Act.put, List.setIfInBounds_toArray, List.set_cons_zero, List.set_cons_succ]) | (refine wpP_skip rfl (by rfl) ?_; simp only [Act.put, List.setIfInBounds_toArray, List.set_cons_zero, List.set_cons_succ])
      clear eqk
      first | (refine wpP_quiet (v := ?_) rfl (by rfl) ?_ ?_; rotate_left; (· (intro w' hw'; go_simp; try with_reducible rfl)); simp only [Act.put, List.setIfInBounds_toArray, List.set_cons_zero, List.set_cons_succ]) | (refine wpP_skip rfl (by rfl) ?_; simp only [Act.put, List.setIfInBounds_toArray, List.set_cons_zero, List.set_cons_succ])
      first | (refine wpP_quiet (v := ?_) rfl (by rfl) ?_ ?_; rotate_left; (· (intro w' hw'; go_simp; try with_reducible rfl)); simp only [Act.put, List.setIfInBounds_toArray, List.set_cons_zero, List.set_cons_succ]) | (refine wpP_skip rfl (by rfl) ?_; simp only [Act.put, List.setIfInBounds_toArray, List.set_cons_zero, List.set_cons_succ])
      refine wpP_done ?_
      go_wp2_with fail
      go_ret
      exact ⟨rfl, fd.trans (fb.mono fd.size)⟩
    · rw [h4]
      go_wp2_with fail
      have hY : Below wB.heap.size wB (wC.setCell ⟨wB.heap.size, 1, none⟩ (.int .i64 (1 + m + 1))) := h9.trans (below_but (RBut.setC _ _ _ _) (Nat.le_refl _) h9.size)
      have bbY : Blk ((wC.setCell ⟨wB.heap.size, 1, none⟩ (.int .i64 (1 + m + 1)))) wB.heap.size 23 (accC (Acc.mk i (1 + m + 1) k x.dat)) := by9.set_ 1 _
      generalize (wC.setCell ⟨wB.heap.size, 1, none⟩ (.int .i64 (1 + m + 1))) = wY at *
      have baY := ba3.to hY
      have fY := f3.trans (hY.mono f3.size)
      clear hY h9 by9 ba3 f3 d0 d1 d2 d3 k0 k1 k2 k3 h4
      have HBW : Hid (Acc.wf (Acc.mk i (1 + m + 1) k x.dat)) := (show Acc.wf _ from ⟨by show _ ∧ _; simp only []; omega, by show _ ∧ _; simp only []; omega, by show _ ∧ _; simp only []; omega, by show _ ∧ _; simp only []; omega⟩)
      obtain ⟨l2, hl2⟩ : ∃ l, leafS (Acc.mk i (1 + m + 1) k x.dat) = l := ⟨_, rfl⟩
      have HLB := Lib.hid hl2
      have HL2 : Hid (l2.length = 32) := (show _ = _ by rw [← hl2]; exact leafS_len _)
      clear hl2
      refine wp_region_P (.take 0 (.take 2 (.one 1 (.one 3 (.take 4 (.take 5 (.take 6 (.take 8 (.one 7 (.one 9 (.take 10 (.take 11 (.take 12 (.take 13 (.take 14 (.take 15 (.take 17 (.one 16 (.take 18 (.take 19 (.take 20 .done))))))))))))))))))))) (Below wY.drew.heap.size) (by kernel_rfl) (by kernel_rfl) (by kernel_rfl) (by decide +kernel) (Below.refl _) (fun _ _ _ => Below.trans) (by intro d v c a w h; first | (cases d <;> exact h) | exact absurd h.1 (by simp)) ?_
      have bad : Blk wY.drew w.heap.size 23 (accC (Acc.mk i (1 + m) k x.dat)) := baY
      have bbd : Blk wY.drew wB.heap.size 23 (accC (Acc.mk i (1 + m + 1) k x.dat)) := bbY
      have fd : Below w.heap.size w wY.drew := fY.drew
      clear baY bbY fY
      generalize wY.drew = V0 at *
      have fb : Below V0.heap.size V0 V0 := Below.refl _ _
      have hNa := bad.lt
      have hNb := bbd.lt
      refine wpP_load rfl (by rfl) _ _ rfl w.heap.size 0 rfl (accC (Acc.mk i (1 + m) k x.dat)) _ (fun w' h => (bad.below (fb.trans h) hNa).range) Try.underlying23 rfl info_acc ?_
      simp only [Act.put, List.setIfInBounds_toArray, List.set_cons_zero, List.set_cons_succ]
      refine wpP_load rfl (by rfl) _ _ rfl w.heap.size 0 rfl (accC (Acc.mk i (1 + m) k x.dat)) _ (fun w' h => (bad.below (fb.trans h) hNa).range) Try.underlying23 rfl info_acc ?_
      simp only [Act.put, List.setIfInBounds_toArray, List.set_cons_zero, List.set_cons_succ]
      refine wpP_one ?_
      refine wpP_loud rfl (by rfl) ?_
      intro K hK
      go_simp
      refine (leaf_any (Acc.mk i (1 + m) k x.dat) HAW.out _).mono ?_
      rintro e Vn ⟨rfl, hb⟩
      rw [HL.out]
      unfold hv
      refine hK.out _ _ (hb.mono fb.size) ?_
      clear hK K
      try simp only [Act.put, List.setIfInBounds_toArray, List.set_cons_zero, List.set_cons_succ]
      replace fb := fb.trans (hb.mono fb.size)
      clear hb
      refine wpP_one ?_
      refine wpP_loud rfl (by rfl) ?_
      intro K hK
      go_simp
      refine (refLeaf_any (Acc.mk i (1 + m) k x.dat) HAW.out _).mono ?_
      rintro e Vn ⟨rfl, hb⟩
      rw [HL.out]
      unfold hv
      refine hK.out _ _ (hb.mono fb.size) ?_
      clear hK K
      try simp only [Act.put, List.setIfInBounds_toArray, List.set_cons_zero, List.set_cons_succ]
      replace fb := fb.trans (hb.mono fb.size)
      clear hb
      have eqk := eq_self l1 HL1.out
      first | (refine wpP_quiet (v := ?_) rfl (by rfl) ?_ ?_; rotate_left; (· (intro w' hw'; go_simp; try with_reducible rfl)); simp only [Act.put, List.setIfInBounds_toArray, List.set_cons_zero, List.set_cons_succ]) | (refine wpP_skip rfl (by rfl) ?_; simp only [Act.put, List.setIfInBounds_toArray, List.set_cons_zero, List.set_cons_succ])
      clear eqk
      first | (refine wpP_quiet (v := ?_) rfl (by rfl) ?_ ?_; rotate_left; (· (intro w' hw'; go_simp; try with_reducible rfl)); simp only [Act.put, List.setIfInBounds_toArray, List.set_cons_zero, List.set_cons_succ]) | (refine wpP_skip rfl (by rfl) ?_; simp only [Act.put, List.setIfInBounds_toArray, List.set_cons_zero, List.set_cons_succ])
      refine wpP_load rfl (by rfl) _ _ rfl wB.heap.size 0 rfl (accC (Acc.mk i (1 + m + 1) k x.dat)) _ (fun w' h => (bbd.below (fb.trans h) hNb).range) Try.underlying23 rfl info_acc ?_
      simp only [Act.put, List.setIfInBounds_toArray, List.set_cons_zero, List.set_cons_succ]
      refine wpP_load rfl (by rfl) _ _ rfl wB.heap.size 0 rfl (accC (Acc.mk i (1 + m + 1) k x.dat)) _ (fun w' h => (bbd.below (fb.trans h) hNb).range) Try.underlying23 rfl info_acc ?_
      simp only [Act.put, List.setIfInBounds_toArray, List.set_cons_zero, List.set_cons_succ]
      refine wpP_one ?_
      refine wpP_loud rfl (by rfl) ?_
      intro K hK
      go_simp
      refine (leaf_any (Acc.mk i (1 + m + 1) k x.dat) HBW.out _).mono ?_
      rintro e Vn ⟨rfl, hb⟩
      rw [HLB.out]
      unfold hv
      refine hK.out _ _ (hb.mono fb.size) ?_
      clear hK K
      try simp only [Act.put, List.setIfInBounds_toArray, List.set_cons_zero, List.set_cons_succ]
      replace fb := fb.trans (hb.mono fb.size)
      clear hb
      refine wpP_one ?_
      refine wpP_loud rfl (by rfl) ?_
      intro K hK
      go_simp
      refine (refLeaf_any (Acc.mk i (1 + m + 1) k x.dat) HBW.out _).mono ?_
      rintro e Vn ⟨rfl, hb⟩
      rw [HLB.out]
      unfold hv
      refine hK.out _ _ (hb.mono fb.size) ?_
      clear hK K
      try simp only [Act.put, List.setIfInBounds_toArray, List.set_cons_zero, List.set_cons_succ]
      replace fb := fb.trans (hb.mono fb.size)
      clear hb
      have eqk := eq_self l2 HL2.out
      first | (refine wpP_quiet (v := ?_) rfl (by rfl) ?_ ?_; rotate_left; (· (intro w' hw'; go_simp; try with_reducible rfl)); simp only [Act.put, List.setIfInBounds_toArray, List.set_cons_zero, List.set_cons_succ]) | (refine wpP_skip rfl (by rfl) ?_; simp only [Act.put, List.setIfInBounds_toArray, List.set_cons_zero, List.set_cons_succ])
      clear eqk
      first | (refine wpP_quiet (v := ?_) rfl (by rfl) ?_ ?_; rotate_left; (· (intro w' hw'; go_simp; try with_reducible rfl)); simp only [Act.put, List.setIfInBounds_toArray, List.set_cons_zero, List.set_cons_succ]) | (refine wpP_skip rfl (by rfl) ?_; simp only [Act.put, List.setIfInBounds_toArray, List.set_cons_zero, List.set_cons_succ])
      first | (refine wpP_quiet (v := ?_) rfl (by rfl) ?_ ?_; rotate_left; (· (intro w' hw'; go_simp; try with_reducible rfl)); simp only [Act.put, List.setIfInBounds_toArray, List.set_cons_zero, List.set_cons_succ]) | (refine wpP_skip rfl (by rfl) ?_; simp only [Act.put, List.setIfInBounds_toArray, List.set_cons_zero, List.set_cons_succ])
      first | (refine wpP_quiet (v := ?_) rfl (by rfl) ?_ ?_; rotate_left; (· (intro w' hw'; go_simp; try with_reducible rfl)); simp only [Act.put, List.setIfInBounds_toArray, List.set_cons_zero, List.set_cons_succ]) | (refine wpP_skip rfl (by rfl) ?_; simp only [Act.put, List.setIfInBounds_toArray, List.set_cons_zero, List.set_cons_succ])
      refine wpP_quiet (v := .int .i64 i) rfl (by rfl) (fun w' hw' => by (have kq := (acc_cells (bad.below (fb.trans hw') hNa)).2.1; go_simp; try with_reducible rfl)) ?_
      simp only [Act.put, List.setIfInBounds_toArray, List.set_cons_zero, List.set_cons_succ]
      refine wpP_build rfl (by rfl) _ _ rfl _ (built_id i) ?_
      simp only [Act.put, List.setIfInBounds_toArray, List.set_cons_zero, List.set_cons_succ]
      refine wpP_build rfl (by rfl) _ _ rfl _ built_zero_ ?_
      simp only [Act.put, List.setIfInBounds_toArray, List.set_cons_zero, List.set_cons_succ]
      refine wpP_one ?_
      refine wpP_loud rfl (by rfl) ?_
      intro K hK
      go_simp
      refine (leaf_any (Acc.mk i 0 0 0) HNW.out _).mono ?_
      rintro e Vn ⟨rfl, hb⟩
      rw [HLN.out]
      unfold hv
      refine hK.out _ _ (hb.mono fb.size) ?_
      clear hK K
      try simp only [Act.put, List.setIfInBounds_toArray, List.set_cons_zero, List.set_cons_succ]
      replace fb := fb.trans (hb.mono fb.size)
      clear hb
      have eqk := eq_self zero32 rfl
      first | (refine wpP_quiet (v := ?_) rfl (by rfl) ?_ ?_; rotate_left; (· (intro w' hw'; go_simp; try with_reducible rfl)); simp only [Act.put, List.setIfInBounds_toArray, List.set_cons_zero, List.set_cons_succ]) | (refine wpP_skip rfl (by rfl) ?_; simp only [Act.put, List.setIfInBounds_toArray, List.set_cons_zero, List.set_cons_succ])
      clear eqk
      first | (refine wpP_quiet (v := ?_) rfl (by rfl) ?_ ?_; rotate_left; (· (intro w' hw'; go_simp; try with_reducible rfl)); simp only [Act.put, List.setIfInBounds_toArray, List.set_cons_zero, List.set_cons_succ]) | (refine wpP_skip rfl (by rfl) ?_; simp only [Act.put, List.setIfInBounds_toArray, List.set_cons_zero, List.set_cons_succ])
      first | (refine wpP_quiet (v := ?_) rfl (by rfl) ?_ ?_; rotate_left; (· (intro w' hw'; go_simp; try with_reducible rfl)); simp only [Act.put, List.setIfInBounds_toArray, List.set_cons_zero, List.set_cons_succ]) | (refine wpP_skip rfl (by rfl) ?_; simp only [Act.put, List.setIfInBounds_toArray, List.set_cons_zero, List.set_cons_succ])
      refine wpP_done ?_
      go_wp2_with fail
      go_ret
      exact ⟨rfl, fd.trans (fb.mono fd.size)⟩
    · rw [h4]
      go_wp2_with fail
      have hY : Below wB.heap.size wB (wC.setCell ⟨wB.heap.size, 2, none⟩ (.int .i64 (k + 1))) := h9.trans (below_but (RBut.setC _ _ _ _) (Nat.le_refl _) h9.size)
      have bbY : Blk ((wC.setCell ⟨wB.heap.size, 2, none⟩ (.int .i64 (k + 1)))) wB.heap.size 23 (accC (Acc.mk i (1 + m) (k + 1) x.dat)) := by9.set_ 2 _
      generalize (wC.setCell ⟨wB.heap.size, 2, none⟩ (.int .i64 (k + 1))) = wY at *
      have baY := ba3.to hY
      have fY := f3.trans (hY.mono f3.size)
      clear hY h9 by9 ba3 f3 d0 d1 d2 d3 k0 k1 k2 k3 h4
      have HBW : Hid (Acc.wf (Acc.mk i (1 + m) (k + 1) x.dat)) := (show Acc.wf _ from ⟨by show _ ∧ _; simp only []; omega, by show _ ∧ _; simp only []; omega, by show _ ∧ _; simp only []; omega, by show _ ∧ _; simp only []; omega⟩)
      obtain ⟨l2, hl2⟩ : ∃ l, leafS (Acc.mk i (1 + m) (k + 1) x.dat) = l := ⟨_, rfl⟩
      have HLB := Lib.hid hl2
      have HL2 : Hid (l2.length = 32) := (show _ = _ by rw [← hl2]; exact leafS_len _)
      clear hl2
      refine wp_region_P (.take 0 (.take 2 (.one 1 (.one 3 (.take 4 (.take 5 (.take 6 (.take 8 (.one 7 (.one 9 (.take 10 (.take 11 (.take 12 (.take 13 (.take 14 (.take 15 (.take 17 (.one 16 (.take 18 (.take 19 (.take 20 .done))))))))))))))))))))) (Below wY.drew.heap.size) (by kernel_rfl) (by kernel_rfl) (by kernel_rfl) (by decide +kernel) (Below.refl _) (fun _ _ _ => Below.trans) (by intro d v c a w h; first | (cases d <;> exact h) | exact absurd h.1 (by simp)) ?_
      have bad : Blk wY.drew w.heap.size 23 (accC (Acc.mk i (1 + m) k x.dat)) := baY
      have bbd : Blk wY.drew wB.heap.size 23 (accC (Acc.mk i (1 + m) (k + 1) x.dat)) := bbY
      have fd : Below w.heap.size w wY.drew := fY.drew
      clear baY bbY fY
      generalize wY.drew = V0 at *
      have fb : Below V0.heap.size V0 V0 := Below.refl _ _
      have hNa := bad.lt
      have hNb := bbd.lt
      refine wpP_load rfl (by rfl) _ _ rfl w.heap.size 0 rfl (accC (Acc.mk i (1 + m) k x.dat)) _ (fun w' h => (bad.below (fb.trans h) hNa).range) Try.underlying23 rfl info_acc ?_
      simp only [Act.put, List.setIfInBounds_toArray, List.set_cons_zero, List.set_cons_succ]
      refine wpP_load rfl (by rfl) _ _ rfl w.heap.size 0 rfl (accC (Acc.mk i (1 + m) k x.dat)) _ (fun w' h => (bad.below (fb.trans h) hNa).range) Try.underlying23 rfl info_acc ?_
      simp only [Act.put, List.setIfInBounds_toArray, List.set_cons_zero, List.set_cons_succ]
      refine wpP_one ?_
      refine wpP_loud rfl (by rfl) ?_
      intro K hK
      go_simp
      refine (leaf_any (Acc.mk i (1 + m) k x.dat) HAW.out _).mono ?_
      rintro e Vn ⟨rfl, hb⟩
      rw [HL.out]
      unfold hv
      refine hK.out _ _ (hb.mono fb.size) ?_
      clear hK K
      try simp only [Act.put, List.setIfInBounds_toArray, List.set_cons_zero, List.set_cons_succ]
      replace fb := fb.trans (hb.mono fb.size)
      clear hb
      refine wpP_one ?_
      refine wpP_loud rfl (by rfl) ?_
      intro K hK
      go_simp
      refine (refLeaf_any (Acc.mk i (1 + m) k x.dat) HAW.out _).mono ?_
      rintro e Vn ⟨rfl, hb⟩
      rw [HL.out]
      unfold hv
      refine hK.out _ _ (hb.mono fb.size) ?_
      clear hK K
      try simp only [Act.put, List.setIfInBounds_toArray, List.set_cons_zero, List.set_cons_succ]
      replace fb := fb.trans (hb.mono fb.size)
      clear hb
      have eqk := eq_self l1 HL1.out
      first | (refine wpP_quiet (v := ?_) rfl (by rfl) ?_ ?_; rotate_left; (· (intro w' hw'; go_simp; try with_reducible rfl)); simp only [Act.put, List.setIfInBounds_toArray, List.set_cons_zero, List.set_cons_succ]) | (refine wpP_skip rfl (by rfl) ?_; simp only [Act.put, List.setIfInBounds_toArray, List.set_cons_zero, List.set_cons_succ])
      clear eqk
      first | (refine wpP_quiet (v := ?_) rfl (by rfl) ?_ ?_; rotate_left; (· (intro w' hw'; go_simp; try with_reducible rfl)); simp only [Act.put, List.setIfInBounds_toArray, List.set_cons_zero, List.set_cons_succ]) | (refine wpP_skip rfl (by rfl) ?_; simp only [Act.put, List.setIfInBounds_toArray, List.set_cons_zero, List.set_cons_succ])
      refine wpP_load rfl (by rfl) _ _ rfl wB.heap.size 0 rfl (accC (Acc.mk i (1 + m) (k + 1) x.dat)) _ (fun w' h => (bbd.below (fb.trans h) hNb).range) Try.underlying23 rfl info_acc ?_
      simp only [Act.put, List.setIfInBounds_toArray, List.set_cons_zero, List.set_cons_succ]
      refine wpP_load rfl (by rfl) _ _ rfl wB.heap.size 0 rfl (accC (Acc.mk i (1 + m) (k + 1) x.dat)) _ (fun w' h => (bbd.below (fb.trans h) hNb).range) Try.underlying23 rfl info_acc ?_
      simp only [Act.put, List.setIfInBounds_toArray, List.set_cons_zero, List.set_cons_succ]
      refine wpP_one ?_
      refine wpP_loud rfl (by rfl) ?_
      intro K hK
      go_simp
      refine (leaf_any (Acc.mk i (1 + m) (k + 1) x.dat) HBW.out _).mono ?_
      rintro e Vn ⟨rfl, hb⟩
      rw [HLB.out]
      unfold hv
      refine hK.out _ _ (hb.mono fb.size) ?_
      clear hK K
      try simp only [Act.put, List.setIfInBounds_toArray, List.set_cons_zero, List.set_cons_succ]
      replace fb := fb.trans (hb.mono fb.size)
      clear hb
      refine wpP_one ?_
      refine wpP_loud rfl (by rfl) ?_
      intro K hK
      go_simp
      refine (refLeaf_any (Acc.mk i (1 + m) (k + 1) x.dat) HBW.out _).mono ?_
      rintro e Vn ⟨rfl, hb⟩
      rw [HLB.out]
      unfold hv
      refine hK.out _ _ (hb.mono fb.size) ?_
      clear hK K
      try simp only [Act.put, List.setIfInBounds_toArray, List.set_cons_zero, List.set_cons_succ]
      replace fb := fb.trans (hb.mono fb.size)
      clear hb
      have eqk := eq_self l2 HL2.out
      first | (refine wpP_quiet (v := ?_) rfl (by rfl) ?_ ?_; rotate_left; (· (intro w' hw'; go_simp; try with_reducible rfl)); simp only [Act.put, List.setIfInBounds_toArray, List.set_cons_zero, List.set_cons_succ]) | (refine wpP_skip rfl (by rfl) ?_; simp only [Act.put, List.setIfInBounds_toArray, List.set_cons_zero, List.set_cons_succ])
      clear eqk
      first | (refine wpP_quiet (v := ?_) rfl (by rfl) ?_ ?_; rotate_left; (· (intro w' hw'; go_simp; try with_reducible rfl)); simp only [Act.put, List.setIfInBounds_toArray, List.set_cons_zero, List.set_cons_succ]) | (refine wpP_skip rfl (by rfl) ?_; simp only [Act.put, List.setIfInBounds_toArray, List.set_cons_zero, List.set_cons_succ])
      first | (refine wpP_quiet (v := ?_) rfl (by rfl) ?_ ?_; rotate_left; (· (intro w' hw'; go_simp; try with_reducible rfl)); simp only [Act.put, List.setIfInBounds_toArray, List.set_cons_zero, List.set_cons_succ]) | (refine wpP_skip rfl (by rfl) ?_; simp only [Act.put, List.setIfInBounds_toArray, List.set_cons_zero, List.set_cons_succ])
      first | (refine wpP_quiet (v := ?_) rfl (by rfl) ?_ ?_; rotate_left; (· (intro w' hw'; go_simp; try with_reducible rfl)); simp only [Act.put, List.setIfInBounds_toArray, List.set_cons_zero, List.set_cons_succ]) | (refine wpP_skip rfl (by rfl) ?_; simp only [Act.put, List.setIfInBounds_toArray, List.set_cons_zero, List.set_cons_succ])
      refine wpP_quiet (v := .int .i64 i) rfl (by rfl) (fun w' hw' => by (have kq := (acc_cells (bad.below (fb.trans hw') hNa)).2.1; go_simp; try with_reducible rfl)) ?_
      simp only [Act.put, List.setIfInBounds_toArray, List.set_cons_zero, List.set_cons_succ]
      refine wpP_build rfl (by rfl) _ _ rfl _ (built_id i) ?_
      simp only [Act.put, List.setIfInBounds_toArray, List.set_cons_zero, List.set_cons_succ]
      refine wpP_build rfl (by rfl) _ _ rfl _ built_zero_ ?_
      simp only [Act.put, List.setIfInBounds_toArray, List.set_cons_zero, List.set_cons_succ]
      refine wpP_one ?_
      refine wpP_loud rfl (by rfl) ?_
      intro K hK
      go_simp
      refine (leaf_any (Acc.mk i 0 0 0) HNW.out _).mono ?_
      rintro e Vn ⟨rfl, hb⟩
      rw [HLN.out]
      unfold hv
      refine hK.out _ _ (hb.mono fb.size) ?_
      clear hK K
      try simp only [Act.put, List.setIfInBounds_toArray, List.set_cons_zero, List.set_cons_succ]
      replace fb := fb.trans (hb.mono fb.size)
      clear hb
      have eqk := eq_self zero32 rfl
      first | (refine wpP_quiet (v := ?_) rfl (by rfl) ?_ ?_; rotate_left; (· (intro w' hw'; go_simp; try with_reducible rfl)); simp only [Act.put, List.setIfInBounds_toArray, List.set_cons_zero, List.set_cons_succ]) | (refine wpP_skip rfl (by rfl) ?_; simp only [Act.put, List.setIfInBounds_toArray, List.set_cons_zero, List.set_cons_succ])
      clear eqk
      first | (refine wpP_quiet (v := ?_) rfl (by rfl) ?_ ?_; rotate_left; (· (intro w' hw'; go_simp; try with_reducible rfl)); simp only [Act.put, List.setIfInBounds_toArray, List.set_cons_zero, List.set_cons_succ]) | (refine wpP_skip rfl (by rfl) ?_; simp only [Act.put, List.setIfInBounds_toArray, List.set_cons_zero, List.set_cons_succ])
      first | (refine wpP_quiet (v := ?_) rfl (by rfl) ?_ ?_; rotate_left; (· (intro w' hw'; go_simp; try with_reducible rfl)); simp only [Act.put, List.setIfInBounds_toArray, List.set_cons_zero, List.set_cons_succ]) | (refine wpP_skip rfl (by rfl) ?_; simp only [Act.put, List.setIfInBounds_toArray, List.set_cons_zero, List.set_cons_succ])
      refine wpP_done ?_
      go_wp2_with fail
      go_ret
      exact ⟨rfl, fd.trans (fb.mono fd.size)⟩
    · rw [h4]
      go_wp2_with fail
      obtain ⟨D, hD⟩ : ∃ D, wrap64 (x.dat + 1) = D := ⟨_, rfl⟩
      have hD1 : -9223372036854775808 ≤ D ∧ D < 9223372036854775808 := by rw [← hD]; unfold wrap64; omega
      rw [hD]
      clear hD
      have hY : Below wB.heap.size wB (wC.setCell ⟨wB.heap.size, 3, none⟩ (.int .i64 (D))) := h9.trans (below_but (RBut.setC _ _ _ _) (Nat.le_refl _) h9.size)
      have bbY : Blk ((wC.setCell ⟨wB.heap.size, 3, none⟩ (.int .i64 (D)))) wB.heap.size 23 (accC (Acc.mk i (1 + m) k D)) := by9.set_ 3 _
      generalize (wC.setCell ⟨wB.heap.size, 3, none⟩ (.int .i64 (D))) = wY at *
      have baY := ba3.to hY
      have fY := f3.trans (hY.mono f3.size)
      clear hY h9 by9 ba3 f3 d0 d1 d2 d3 k0 k1 k2 k3 h4
      have HBW : Hid (Acc.wf (Acc.mk i (1 + m) k D)) := (show Acc.wf _ from ⟨by show _ ∧ _; simp only []; omega, by show _ ∧ _; simp only []; omega, by show _ ∧ _; simp only []; omega, by show _ ∧ _; simp only []; omega⟩)
      obtain ⟨l2, hl2⟩ : ∃ l, leafS (Acc.mk i (1 + m) k D) = l := ⟨_, rfl⟩
      have HLB := Lib.hid hl2
      have HL2 : Hid (l2.length = 32) := (show _ = _ by rw [← hl2]; exact leafS_len _)
      clear hl2
      refine wp_region_P (.take 0 (.take 2 (.one 1 (.one 3 (.take 4 (.take 5 (.take 6 (.take 8 (.one 7 (.one 9 (.take 10 (.take 11 (.take 12 (.take 13 (.take 14 (.take 15 (.take 17 (.one 16 (.take 18 (.take 19 (.take 20 .done))))))))))))))))))))) (Below wY.drew.heap.size) (by kernel_rfl) (by kernel_rfl) (by kernel_rfl) (by decide +kernel) (Below.refl _) (fun _ _ _ => Below.trans) (by intro d v c a w h; first | (cases d <;> exact h) | exact absurd h.1 (by simp)) ?_
      have bad : Blk wY.drew w.heap.size 23 (accC (Acc.mk i (1 + m) k x.dat)) := baY
      have bbd : Blk wY.drew wB.heap.size 23 (accC (Acc.mk i (1 + m) k D)) := bbY
      have fd : Below w.heap.size w wY.drew := fY.drew
      clear baY bbY fY
      generalize wY.drew = V0 at *
      have fb : Below V0.heap.size V0 V0 := Below.refl _ _
      have hNa := bad.lt
      have hNb := bbd.lt
      refine wpP_load rfl (by rfl) _ _ rfl w.heap.size 0 rfl (accC (Acc.mk i (1 + m) k x.dat)) _ (fun w' h => (bad.below (fb.trans h) hNa).range) Try.underlying23 rfl info_acc ?_
      simp only [Act.put, List.setIfInBounds_toArray, List.set_cons_zero, List.set_cons_succ]
      refine wpP_load rfl (by rfl) _ _ rfl w.heap.size 0 rfl (accC (Acc.mk i (1 + m) k x.dat)) _ (fun w' h => (bad.below (fb.trans h) hNa).range) Try.underlying23 rfl info_acc ?_
      simp only [Act.put, List.setIfInBounds_toArray, List.set_cons_zero, List.set_cons_succ]
      refine wpP_one ?_
      refine wpP_loud rfl (by rfl) ?_
      intro K hK
      go_simp
      refine (leaf_any (Acc.mk i (1 + m) k x.dat) HAW.out _).mono ?_
      rintro e Vn ⟨rfl, hb⟩
      rw [HL.out]
      unfold hv
      refine hK.out _ _ (hb.mono fb.size) ?_
      clear hK K
      try simp only [Act.put, List.setIfInBounds_toArray, List.set_cons_zero, List.set_cons_succ]
      replace fb := fb.trans (hb.mono fb.size)
      clear hb
      refine wpP_one ?_
      refine wpP_loud rfl (by rfl) ?_
      intro K hK
      go_simp
      refine (refLeaf_any (Acc.mk i (1 + m) k x.dat) HAW.out _).mono ?_
      rintro e Vn ⟨rfl, hb⟩
      rw [HL.out]
      unfold hv
      refine hK.out _ _ (hb.mono fb.size) ?_
      clear hK K
      try simp only [Act.put, List.setIfInBounds_toArray, List.set_cons_zero, List.set_cons_succ]
      replace fb := fb.trans (hb.mono fb.size)
      clear hb
      have eqk := eq_self l1 HL1.out
      first | (refine wpP_quiet (v := ?_) rfl (by rfl) ?_ ?_; rotate_left; (· (intro w' hw'; go_simp; try with_reducible rfl)); simp only [Act.put, List.setIfInBounds_toArray, List.set_cons_zero, List.set_cons_succ]) | (refine wpP_skip rfl (by rfl) ?_; simp only [Act.put, List.setIfInBounds_toArray, List.set_cons_zero, List.set_cons_succ])
      clear eqk
      first | (refine wpP_quiet (v := ?_) rfl (by rfl) ?_ ?_; rotate_left; (· (intro w' hw'; go_simp; try with_reducible rfl)); simp only [Act.put, List.setIfInBounds_toArray, List.set_cons_zero, List.set_cons_succ]) | (refine wpP_skip rfl (by rfl) ?_; simp only [Act.put, List.setIfInBounds_toArray, List.set_cons_zero, List.set_cons_succ])
      refine wpP_load rfl (by rfl) _ _ rfl wB.heap.size 0 rfl (accC (Acc.mk i (1 + m) k D)) _ (fun w' h => (bbd.below (fb.trans h) hNb).range) Try.underlying23 rfl info_acc ?_
      simp only [Act.put, List.setIfInBounds_toArray, List.set_cons_zero, List.set_cons_succ]
      refine wpP_load rfl (by rfl) _ _ rfl wB.heap.size 0 rfl (accC (Acc.mk i (1 + m) k D)) _ (fun w' h => (bbd.below (fb.trans h) hNb).range) Try.underlying23 rfl info_acc ?_
      simp only [Act.put, List.setIfInBounds_toArray, List.set_cons_zero, List.set_cons_succ]
      refine wpP_one ?_
      refine wpP_loud rfl (by rfl) ?_
      intro K hK
      go_simp
      refine (leaf_any (Acc.mk i (1 + m) k D) HBW.out _).mono ?_
      rintro e Vn ⟨rfl, hb⟩
      rw [HLB.out]
      unfold hv
      refine hK.out _ _ (hb.mono fb.size) ?_
      clear hK K
      try simp only [Act.put, List.setIfInBounds_toArray, List.set_cons_zero, List.set_cons_succ]
      replace fb := fb.trans (hb.mono fb.size)
      clear hb
      refine wpP_one ?_
      refine wpP_loud rfl (by rfl) ?_
      intro K hK
      go_simp
      refine (refLeaf_any (Acc.mk i (1 + m) k D) HBW.out _).mono ?_
      rintro e Vn ⟨rfl, hb⟩
      rw [HLB.out]
      unfold hv
      refine hK.out _ _ (hb.mono fb.size) ?_
      clear hK K
      try simp only [Act.put, List.setIfInBounds_toArray, List.set_cons_zero, List.set_cons_succ]
      replace fb := fb.trans (hb.mono fb.size)
      clear hb
      have eqk := eq_self l2 HL2.out
      first | (refine wpP_quiet (v := ?_) rfl (by rfl) ?_ ?_; rotate_left; (· (intro w' hw'; go_simp; try with_reducible rfl)); simp only [Act.put, List.setIfInBounds_toArray, List.set_cons_zero, List.set_cons_succ]) | (refine wpP_skip rfl (by rfl) ?_; simp only [Act.put, List.setIfInBounds_toArray, List.set_cons_zero, List.set_cons_succ])
      clear eqk
      first | (refine wpP_quiet (v := ?_) rfl (by rfl) ?_ ?_; rotate_left; (· (intro w' hw'; go_simp; try with_reducible rfl)); simp only [Act.put, List.setIfInBounds_toArray, List.set_cons_zero, List.set_cons_succ]) | (refine wpP_skip rfl (by rfl) ?_; simp only [Act.put, List.setIfInBounds_toArray, List.set_cons_zero, List.set_cons_succ])
      first | (refine wpP_quiet (v := ?_) rfl (by rfl) ?_ ?_; rotate_left; (· (intro w' hw'; go_simp; try with_reducible rfl)); simp only [Act.put, List.setIfInBounds_toArray, List.set_cons_zero, List.set_cons_succ]) | (refine wpP_skip rfl (by rfl) ?_; simp only [Act.put, List.setIfInBounds_toArray, List.set_cons_zero, List.set_cons_succ])
      first | (refine wpP_quiet (v := ?_) rfl (by rfl) ?_ ?_; rotate_left; (· (intro w' hw'; go_simp; try with_reducible rfl)); simp only [Act.put, List.setIfInBounds_toArray, List.set_cons_zero, List.set_cons_succ]) | (refine wpP_skip rfl (by rfl) ?_; simp only [Act.put, List.setIfInBounds_toArray, List.set_cons_zero, List.set_cons_succ])
      refine wpP_quiet (v := .int .i64 i) rfl (by rfl) (fun w' hw' => by (have kq := (acc_cells (bad.below (fb.trans hw') hNa)).2.1; go_simp; try with_reducible rfl)) ?_
      simp only [Act.put, List.setIfInBounds_toArray, List.set_cons_zero, List.set_cons_succ]
      refine wpP_build rfl (by rfl) _ _ rfl _ (built_id i) ?_
      simp only [Act.put, List.setIfInBounds_toArray, List.set_cons_zero, List.set_cons_succ]
      refine wpP_build rfl (by rfl) _ _ rfl _ built_zero_ ?_
      simp only [Act.put, List.setIfInBounds_toArray, List.set_cons_zero, List.set_cons_succ]
      refine wpP_one ?_
      refine wpP_loud rfl (by rfl) ?_
      intro K hK
      go_simp
      refine (leaf_any (Acc.mk i 0 0 0) HNW.out _).mono ?_
      rintro e Vn ⟨rfl, hb⟩
      rw [HLN.out]
      unfold hv
      refine hK.out _ _ (hb.mono fb.size) ?_
      clear hK K
      try simp only [Act.put, List.setIfInBounds_toArray, List.set_cons_zero, List.set_cons_succ]
      replace fb := fb.trans (hb.mono fb.size)
      clear hb
      have eqk := eq_self zero32 rfl
      first | (refine wpP_quiet (v := ?_) rfl (by rfl) ?_ ?_; rotate_left; (· (intro w' hw'; go_simp; try with_reducible rfl)); simp only [Act.put, List.setIfInBounds_toArray, List.set_cons_zero, List.set_cons_succ]) | (refine wpP_skip rfl (by rfl) ?_; simp only [Act.put, List.setIfInBounds_toArray, List.set_cons_zero, List.set_cons_succ])
      clear eqk
      first | (refine wpP_quiet (v := ?_) rfl (by rfl) ?_ ?_; rotate_left; (· (intro w' hw'; go_simp; try with_reducible rfl)); simp only [Act.put, List.setIfInBounds_toArray, List.set_cons_zero, List.set_cons_succ]) | (refine wpP_skip rfl (by rfl) ?_; simp only [Act.put, List.setIfInBounds_toArray, List.set_cons_zero, List.set_cons_succ])
      first | (refine wpP_quiet (v := ?_) rfl (by rfl) ?_ ?_; rotate_left; (· (intro w' hw'; go_simp; try with_reducible rfl)); simp only [Act.put, List.setIfInBounds_toArray, List.set_cons_zero, List.set_cons_succ]) | (refine wpP_skip rfl (by rfl) ?_; simp only [Act.put, List.setIfInBounds_toArray, List.set_cons_zero, List.set_cons_succ])
      refine wpP_done ?_
      go_wp2_with fail
      go_ret
      exact ⟨rfl, fd.trans (fb.mono fd.size)⟩
end Go.Proofs.Ytakebmpnbdlcoaa
