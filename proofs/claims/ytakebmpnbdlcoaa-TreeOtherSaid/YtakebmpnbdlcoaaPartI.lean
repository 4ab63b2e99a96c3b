/- The texts of this claim, part I: words, plain laws, walks. -/
import Derived.Test.YtakebmpnbdlcoaaPartH
/- The walk of capstanlaw7.TreeOther. -/
set_option linter.unusedSimpArgs false
set_option linter.unusedVariables false

namespace Go.Proofs.Ytakebmpnbdlcoaa
open Go.RowKit
set_option maxRecDepth 100000
theorem stSame_any (v u : Value) (s t : List Acc) (w : World) (h : StV w v s) (k : StV w u t) (hs : St s) : Calls Try.prog 29 #[v, u] w (RB (decide (s = t)) w) := by
  obtain ⟨A, n, c, rfl, sl, h2, h3, h4⟩ := h
  obtain ⟨B, m, d, rfl, st, k2, k3, k4⟩ := k
  exact same_any A B n c m d s t w sl st h2 k2 (by have := hs.len; omega)
set_option maxRecDepth 100000 in
set_option maxHeartbeats 8000000 in
theorem treeOther_walk (w : World) (A : Option Addr) (n c : Nat) (z : List Int) (hnc : n ≤ c) (hcm : c ≤ maxLen) (zb : ∀ x ∈ z, -9223372036854775808 ≤ x ∧ x < 9223372036854775808) (sl : Sl w 1 A n (z.map (Value.int .i64)))
    (a : Int) (a_lo : -9223372036854775808 ≤ a) (a_hi : a < 9223372036854775808) (b : Int) (b_lo : -9223372036854775808 ≤ b) (b_hi : b < 9223372036854775808) (cc : Int) (c_lo : -9223372036854775808 ≤ cc) (c_hi : cc < 9223372036854775808) :
    Calls Try.prog 8 #[.slice A n c, .int .i64 a, .int .i64 b, .int .i64 cc] w (RB true w) := by
  have hm : maxLen = 9223372036854775807 := rfl
  go_enter Try.func8, Try.ntmps8
  go_wp2_with fail
  refine (treeKnown_any w).mono ?_
  rintro e w1 ⟨rfl, h1⟩
  go_wp2_with fail
  refine (of_any A n c z w1 (sl.to h1) zb (by omega)).mono ?_
  rintro e w2 ⟨v, s, rfl, hv2, hs, hsm, h2⟩
  have f2 := h1.trans (h2.mono h1.size)
  have HS := Lib.hid hs
  have HSM := Lib.hid hsm
  have HWF := Lib.hid (st_wf hs hsm)
  clear hs hsm sl zb h1 h2
  go_wp2_with fail
  refine (within_capstanlaw7 a 256 w2 (by omega) (by omega) a_lo a_hi).mono ?_
  rintro e w2' ⟨rfl, rfl⟩
  obtain ⟨i, hi⟩ : ∃ i, a % 256 = i := ⟨_, rfl⟩
  have hi1 : 0 ≤ i ∧ i < 256 := by omega
  rw [hi]
  have HI := Lib.hid hi1
  go_wp2_with fail
  refine (within_capstanlaw7 b 256 w2 (by omega) (by omega) b_lo b_hi).mono ?_
  rintro e w2' ⟨rfl, rfl⟩
  obtain ⟨j, hj⟩ : ∃ j, b % 256 = j := ⟨_, rfl⟩
  have hj1 : 0 ≤ j ∧ j < 256 := by omega
  rw [hj]
  clear hi hj a_lo a_hi b_lo b_hi
  by_cases hij : i = j
  · subst hij
    obtain ⟨o, ho⟩ : ∃ o, (i + 1).tmod 256 = o := ⟨_, rfl⟩
    have ho1 : 0 ≤ o ∧ o < 256 := by rw [Int.tmod_eq_emod_of_nonneg (by omega)] at ho; omega
    have HO := Lib.hid ho1
    clear hj1 ho1
    go_wp2_with fail
    refine (within_capstanlaw7 cc 100 w2 (by omega) (by omega) c_lo c_hi).mono ?_
    rintro e w2' ⟨rfl, rfl⟩
    obtain ⟨m, hm100⟩ : ∃ m, cc % 100 = m := ⟨_, rfl⟩
    have hmb : 0 ≤ m ∧ m < 100 := by omega
    rw [hm100]
    have HYS : Hid (Acc.small (Acc.mk i m 0 0)) := (show Acc.small _ from ⟨by show _ ∧ _; simp only []; omega, (by decide : (0 : Int) ≤ 0 ∧ (0 : Int) ≤ 1000), (by decide : (-1000 : Int) ≤ 0 ∧ (0 : Int) ≤ 1000)⟩)
    have hst' := HS.out.put (a := Acc.mk i m 0 0) HI.out.1 HI.out.2
    have hsmt := small_put HS.out HSM.out HYS.out
    go_wp2_with fail
    refine (stPut_any v s (Acc.mk i m 0 0) w2 hv2 HS.out).mono ?_
    rintro e w4 ⟨v2, rfl, ht4, h4⟩
    have hv4 := hv2.to h4
    have f4 := f2.trans (h4.mono f2.size)
    obtain ⟨t, ht⟩ : ∃ t, putS s (Acc.mk i m 0 0) = t := ⟨_, rfl⟩
    rw [ht] at hst' hsmt ht4
    have HST := Lib.hid hst'
    have HWT := Lib.hid (st_wf hst' hsmt)
    have hux := up_get HST.out HO.out
    have hxs := get_small hsmt o
    have hxi := get_id t o
    clear hst' ht hv2 f2 h4 hm100
    go_wp2_with fail
    refine (stGet_any v2 t o w4 ht4 HST.out).mono ?_
    rintro e w5 ⟨rfl, h5⟩
    obtain ⟨x, hx⟩ : ∃ x, getS t o = x := ⟨_, rfl⟩
    rw [hx] at hux hxs hxi ⊢
    have HXW : Hid x.wf := (show x.wf from wf_of_small (by rw [hxi]; exact HO.out) hxs)
    obtain ⟨rt, hrt⟩ : ∃ r, rootJ 8 (leavesL t) = r := ⟨_, rfl⟩
    obtain ⟨rs, hrs⟩ : ∃ r, rootJ 8 (leavesL s) = r := ⟨_, rfl⟩
    have hrtl := root_len t
    have hrsl := root_len s
    rw [hrt] at hux hrtl
    rw [hrs] at hrsl
    have HRT := Lib.hid hrt
    have HRS := Lib.hid hrs
    have HRTL := Lib.hid hrtl
    have HRSL := Lib.hid hrsl
    have HUX := Lib.hid hux
    have hv5 := hv4.to h5
    have ht5 := ht4.to h5
    have f5 := f4.trans (h5.mono f4.size)
    clear hx hxs hxi hux hrt hrs hrtl hrsl hsmt hv4 ht4 f4 h5
    unfold accV accC
    go_wp2_with fail
    have h6 : Below w5.heap.size w5 (w5.alloc (.cells #[.int .i64 x.id, .int .i64 x.bal, .int .i64 x.non, .int .i64 x.dat] 23)) := (Below.refl _ _).alloc (Nat.le_refl _) _
    have bx6 : Blk (w5.alloc (.cells #[.int .i64 x.id, .int .i64 x.bal, .int .i64 x.non, .int .i64 x.dat] 23)) w5.heap.size 23 (accC x) := Blk.new w5 #[.int .i64 x.id, .int .i64 x.bal, .int .i64 x.non, .int .i64 x.dat] 23
    have hv6 := hv5.to h6
    have ht6 := ht5.to h6
    have f6 := f5.trans (h6.mono f5.size)
    clear hv5 ht5 f5 h6
    generalize w5.alloc (.cells #[.int .i64 x.id, .int .i64 x.bal, .int .i64 x.non, .int .i64 x.dat] 23) = w6 at *
    refine (within_capstanlaw7 cc 9 w6 (by omega) (by omega) c_lo c_hi).mono ?_
    rintro e w6' ⟨rfl, rfl⟩
    obtain ⟨m9, hm9⟩ : ∃ m, cc % 9 = m := ⟨_, rfl⟩
    have hm9b : 0 ≤ m9 ∧ m9 < 9 := by omega
    rw [hm9]
    go_wp2_with fail
    have h7 : Below w6.heap.size w6 (w6.alloc (.cells #[.int .i64 (256 + m9), .int .i64 1, .int .i64 0, .int .i64 0] 23)) := (Below.refl _ _).alloc (Nat.le_refl _) _
    have bb7 : Blk (w6.alloc (.cells #[.int .i64 (256 + m9), .int .i64 1, .int .i64 0, .int .i64 0] 23)) w6.heap.size 23 (accC (Acc.mk (256 + m9) 1 0 0)) := Blk.new w6 #[.int .i64 (256 + m9), .int .i64 1, .int .i64 0, .int .i64 0] 23
    have bx7 := bx6.to h7
    have hv7 := hv6.to h7
    have ht7 := ht6.to h7
    have f7 := f6.trans (h7.mono f6.size)
    clear bx6 hv6 ht6 f6 h7
    generalize w6.alloc (.cells #[.int .i64 (256 + m9), .int .i64 1, .int .i64 0, .int .i64 0] 23) = w7 at *
    have HBW : Hid (Acc.wf (Acc.mk (256 + m9) 1 0 0)) := (show Acc.wf _ from ⟨by show _ ∧ _; simp only []; omega, by show _ ∧ _; simp only []; omega, by show _ ∧ _; simp only []; omega, by show _ ∧ _; simp only []; omega⟩)
    have HUB : Hid (upA (Acc.mk (256 + m9) 1 0 0) (proveS t o) = zero32) := (show _ = _ by unfold upA; rw [if_neg (by simp only []; omega)])
    have HPN : Hid (proveS t (-1 - m9) = path0) := (show _ = _ by unfold proveS; rw [if_neg (by omega)])
    have wn : IntKind.i64.wrap (-1 - m9) = -1 - m9 := IntWalk.i64_in _ (by omega)
    by_cases hst : s = t
    · have hrst : rs = rt := by rw [← HRS.out, ← HRT.out, hst]
      subst hst
      subst hrst
      refine wp_region_P (.take 0 (.take 1 (.take 2 (.take 5 (.one 3 (.one 4 (.one 6 (.take 7 (.take 8 (.take 9 (.take 11 (.take 14 (.take 16 (.one 10 (.one 12 (.take 13 (.one 15 (.one 17 (.take 18 (.take 19 (.take 20 (.take 21 (.take 22 (.take 23 (.one 24 (.take 25 (.take 26 (.take 27 (.take 29 (.one 28 (.one 30 (.take 31 (.take 32 (.take 33 (.take 34 (.take 35 (.take 36 (.take 37 (.take 40 (.one 38 (.one 39 (.take 41 (.take 42 (.take 43 (.take 44 (.take 45 (.take 49 (.one 46 (.take 47 (.one 48 (.take 50 (.take 51 (.take 52 .done))))))))))))))))))))))))))))))))))))))))))))))))))))) (Below w7.drew.heap.size) (by kernel_rfl) (by kernel_rfl) (by kernel_rfl) (by decide +kernel) (Below.refl _) (fun _ _ _ => Below.trans) (by intro d v c a w h; first | (cases d <;> exact h) | exact absurd h.1 (by simp)) ?_
      have bxd : Blk w7.drew w5.heap.size 23 (accC x) := bx7
      have bbd : Blk w7.drew w6.heap.size 23 (accC (Acc.mk (256 + m9) 1 0 0)) := bb7
      have hvd : StV w7.drew v s := hv7.drew
      have htd : StV w7.drew v2 s := ht7.drew
      have fd : Below w.heap.size w w7.drew := f7.drew
      clear bx7 bb7 hv7 ht7 f7
      generalize w7.drew = V0 at *
      have fb : Below V0.heap.size V0 V0 := Below.refl _ _
      have hN5 := bxd.lt
      have hN6 := bbd.lt
      refine wpP_load rfl (by rfl) _ _ rfl (w5.heap.size) 0 rfl (accC x) _ (fun w' h => (bxd.below (fb.trans h) hN5).range) Try.underlying23 rfl info_acc ?_
      simp only [Act.put, List.setIfInBounds_toArray, List.set_cons_zero, List.set_cons_succ]
      first | (refine wpP_quiet (v := ?_) rfl (by rfl) ?_ ?_; rotate_left; (· (intro w' hw'; go_simp; try with_reducible rfl)); simp only [Act.put, List.setIfInBounds_toArray, List.set_cons_zero, List.set_cons_succ]) | (refine wpP_skip rfl (by rfl) ?_; simp only [Act.put, List.setIfInBounds_toArray, List.set_cons_zero, List.set_cons_succ])
      first | (refine wpP_quiet (v := ?_) rfl (by rfl) ?_ ?_; rotate_left; (· (intro w' hw'; go_simp; try with_reducible rfl)); simp only [Act.put, List.setIfInBounds_toArray, List.set_cons_zero, List.set_cons_succ]) | (refine wpP_skip rfl (by rfl) ?_; simp only [Act.put, List.setIfInBounds_toArray, List.set_cons_zero, List.set_cons_succ])
      first | (refine wpP_quiet (v := ?_) rfl (by rfl) ?_ ?_; rotate_left; (· (intro w' hw'; go_simp; try with_reducible rfl)); simp only [Act.put, List.setIfInBounds_toArray, List.set_cons_zero, List.set_cons_succ]) | (refine wpP_skip rfl (by rfl) ?_; simp only [Act.put, List.setIfInBounds_toArray, List.set_cons_zero, List.set_cons_succ])
      refine wpP_one ?_
      refine wpP_loud rfl (by rfl) ?_
      intro K hK
      go_simp
      refine (stProve_any v2 s o _ (htd.to fb) HST.out HWT.out).mono ?_
      rintro e Vn ⟨rfl, hb⟩
      refine hK.out _ _ (hb.mono fb.size) ?_
      clear hK K
      try simp only [Act.put, List.setIfInBounds_toArray, List.set_cons_zero, List.set_cons_succ]
      replace fb := fb.trans (hb.mono fb.size)
      clear hb
      refine wpP_one ?_
      refine wpP_loud rfl (by rfl) ?_
      intro K hK
      go_simp
      refine (up_any x HXW.out (proveS s o) (proveS_len _ _) (proveS_all _ _) _).mono ?_
      rintro e Vn ⟨rfl, hb⟩
      rw [HUX.out]
      unfold hv
      refine hK.out _ _ (hb.mono fb.size) ?_
      clear hK K
      try simp only [Act.put, List.setIfInBounds_toArray, List.set_cons_zero, List.set_cons_succ]
      replace fb := fb.trans (hb.mono fb.size)
      clear hb
      refine wpP_one ?_
      refine wpP_loud rfl (by rfl) ?_
      intro K hK
      go_simp
      refine (stRoot_any v2 s _ (htd.to fb) HST.out HWT.out).mono ?_
      rintro e Vn ⟨rfl, hb⟩
      rw [HRT.out]
      unfold hv
      refine hK.out _ _ (hb.mono fb.size) ?_
      clear hK K
      try simp only [Act.put, List.setIfInBounds_toArray, List.set_cons_zero, List.set_cons_succ]
      replace fb := fb.trans (hb.mono fb.size)
      clear hb
      have eqk := eq_self rs HRTL.out
      first | (refine wpP_quiet (v := ?_) rfl (by rfl) ?_ ?_; rotate_left; (· (intro w' hw'; go_simp; try with_reducible rfl)); simp only [Act.put, List.setIfInBounds_toArray, List.set_cons_zero, List.set_cons_succ]) | (refine wpP_skip rfl (by rfl) ?_; simp only [Act.put, List.setIfInBounds_toArray, List.set_cons_zero, List.set_cons_succ])
      clear eqk
      first | (refine wpP_quiet (v := ?_) rfl (by rfl) ?_ ?_; rotate_left; (· (intro w' hw'; go_simp; try with_reducible rfl)); simp only [Act.put, List.setIfInBounds_toArray, List.set_cons_zero, List.set_cons_succ]) | (refine wpP_skip rfl (by rfl) ?_; simp only [Act.put, List.setIfInBounds_toArray, List.set_cons_zero, List.set_cons_succ])
      first | (refine wpP_quiet (v := ?_) rfl (by rfl) ?_ ?_; rotate_left; (· (intro w' hw'; go_simp; try with_reducible rfl)); simp only [Act.put, List.setIfInBounds_toArray, List.set_cons_zero, List.set_cons_succ]) | (refine wpP_skip rfl (by rfl) ?_; simp only [Act.put, List.setIfInBounds_toArray, List.set_cons_zero, List.set_cons_succ])
      first | (refine wpP_quiet (v := ?_) rfl (by rfl) ?_ ?_; rotate_left; (· (intro w' hw'; go_simp; try with_reducible rfl)); simp only [Act.put, List.setIfInBounds_toArray, List.set_cons_zero, List.set_cons_succ]) | (refine wpP_skip rfl (by rfl) ?_; simp only [Act.put, List.setIfInBounds_toArray, List.set_cons_zero, List.set_cons_succ])
      first | (refine wpP_quiet (v := ?_) rfl (by rfl) ?_ ?_; rotate_left; (· (intro w' hw'; go_simp; try with_reducible rfl)); simp only [Act.put, List.setIfInBounds_toArray, List.set_cons_zero, List.set_cons_succ]) | (refine wpP_skip rfl (by rfl) ?_; simp only [Act.put, List.setIfInBounds_toArray, List.set_cons_zero, List.set_cons_succ])
      first | (refine wpP_quiet (v := ?_) rfl (by rfl) ?_ ?_; rotate_left; (· (intro w' hw'; go_simp; try with_reducible rfl)); simp only [Act.put, List.setIfInBounds_toArray, List.set_cons_zero, List.set_cons_succ]) | (refine wpP_skip rfl (by rfl) ?_; simp only [Act.put, List.setIfInBounds_toArray, List.set_cons_zero, List.set_cons_succ])
      refine wpP_one ?_
      refine wpP_loud rfl (by rfl) ?_
      intro K hK
      go_simp
      refine (stRoot_any v s _ (hvd.to fb) HS.out HWF.out).mono ?_
      rintro e Vn ⟨rfl, hb⟩
      rw [HRS.out]
      unfold hv
      refine hK.out _ _ (hb.mono fb.size) ?_
      clear hK K
      try simp only [Act.put, List.setIfInBounds_toArray, List.set_cons_zero, List.set_cons_succ]
      replace fb := fb.trans (hb.mono fb.size)
      clear hb
      refine wpP_one ?_
      refine wpP_loud rfl (by rfl) ?_
      intro K hK
      go_simp
      refine (stRoot_any v2 s _ (htd.to fb) HST.out HWT.out).mono ?_
      rintro e Vn ⟨rfl, hb⟩
      rw [HRT.out]
      unfold hv
      refine hK.out _ _ (hb.mono fb.size) ?_
      clear hK K
      try simp only [Act.put, List.setIfInBounds_toArray, List.set_cons_zero, List.set_cons_succ]
      replace fb := fb.trans (hb.mono fb.size)
      clear hb
      have eqk := eq_hash rs rs HRSL.out HRTL.out
      first | (refine wpP_quiet (v := ?_) rfl (by rfl) ?_ ?_; rotate_left; (· (intro w' hw'; go_simp; try with_reducible rfl)); simp only [Act.put, List.setIfInBounds_toArray, List.set_cons_zero, List.set_cons_succ]) | (refine wpP_skip rfl (by rfl) ?_; simp only [Act.put, List.setIfInBounds_toArray, List.set_cons_zero, List.set_cons_succ])
      clear eqk
      refine wpP_one ?_
      refine wpP_loud rfl (by rfl) ?_
      intro K hK
      go_simp
      refine (stRefRoot_any v s _ (hvd.to fb) HS.out HWF.out).mono ?_
      rintro e Vn ⟨rfl, hb⟩
      rw [HRS.out]
      unfold hv
      refine hK.out _ _ (hb.mono fb.size) ?_
      clear hK K
      try simp only [Act.put, List.setIfInBounds_toArray, List.set_cons_zero, List.set_cons_succ]
      replace fb := fb.trans (hb.mono fb.size)
      clear hb
      refine wpP_one ?_
      refine wpP_loud rfl (by rfl) ?_
      intro K hK
      go_simp
      refine (stRefRoot_any v2 s _ (htd.to fb) HST.out HWT.out).mono ?_
      rintro e Vn ⟨rfl, hb⟩
      rw [HRT.out]
      unfold hv
      refine hK.out _ _ (hb.mono fb.size) ?_
      clear hK K
      try simp only [Act.put, List.setIfInBounds_toArray, List.set_cons_zero, List.set_cons_succ]
      replace fb := fb.trans (hb.mono fb.size)
      clear hb
      have eqk := eq_hash rs rs HRSL.out HRTL.out
      first | (refine wpP_quiet (v := ?_) rfl (by rfl) ?_ ?_; rotate_left; (· (intro w' hw'; go_simp; try with_reducible rfl)); simp only [Act.put, List.setIfInBounds_toArray, List.set_cons_zero, List.set_cons_succ]) | (refine wpP_skip rfl (by rfl) ?_; simp only [Act.put, List.setIfInBounds_toArray, List.set_cons_zero, List.set_cons_succ])
      clear eqk
      first | (refine wpP_quiet (v := ?_) rfl (by rfl) ?_ ?_; rotate_left; (· (intro w' hw'; go_simp; try with_reducible rfl)); simp only [Act.put, List.setIfInBounds_toArray, List.set_cons_zero, List.set_cons_succ]) | (refine wpP_skip rfl (by rfl) ?_; simp only [Act.put, List.setIfInBounds_toArray, List.set_cons_zero, List.set_cons_succ])
      first | (refine wpP_quiet (v := ?_) rfl (by rfl) ?_ ?_; rotate_left; (· (intro w' hw'; go_simp; try with_reducible rfl)); simp only [Act.put, List.setIfInBounds_toArray, List.set_cons_zero, List.set_cons_succ]) | (refine wpP_skip rfl (by rfl) ?_; simp only [Act.put, List.setIfInBounds_toArray, List.set_cons_zero, List.set_cons_succ])
      first | (refine wpP_quiet (v := ?_) rfl (by rfl) ?_ ?_; rotate_left; (· (intro w' hw'; go_simp; try with_reducible rfl)); simp only [Act.put, List.setIfInBounds_toArray, List.set_cons_zero, List.set_cons_succ]) | (refine wpP_skip rfl (by rfl) ?_; simp only [Act.put, List.setIfInBounds_toArray, List.set_cons_zero, List.set_cons_succ])
      first | (refine wpP_quiet (v := ?_) rfl (by rfl) ?_ ?_; rotate_left; (· (intro w' hw'; go_simp; try with_reducible rfl)); simp only [Act.put, List.setIfInBounds_toArray, List.set_cons_zero, List.set_cons_succ]) | (refine wpP_skip rfl (by rfl) ?_; simp only [Act.put, List.setIfInBounds_toArray, List.set_cons_zero, List.set_cons_succ])
      first | (refine wpP_quiet (v := ?_) rfl (by rfl) ?_ ?_; rotate_left; (· (intro w' hw'; go_simp; try with_reducible rfl)); simp only [Act.put, List.setIfInBounds_toArray, List.set_cons_zero, List.set_cons_succ]) | (refine wpP_skip rfl (by rfl) ?_; simp only [Act.put, List.setIfInBounds_toArray, List.set_cons_zero, List.set_cons_succ])
      refine wpP_one ?_
      refine wpP_loud rfl (by rfl) ?_
      intro K hK
      go_simp
      refine (stSame_any v v2 s s _ (hvd.to fb) (htd.to fb) HS.out).mono ?_
      rintro e Vn ⟨rfl, hb⟩
      rw [decide_eq_true rfl]
      refine hK.out _ _ (hb.mono fb.size) ?_
      clear hK K
      try simp only [Act.put, List.setIfInBounds_toArray, List.set_cons_zero, List.set_cons_succ]
      replace fb := fb.trans (hb.mono fb.size)
      clear hb
      first | (refine wpP_quiet (v := ?_) rfl (by rfl) ?_ ?_; rotate_left; (· (intro w' hw'; go_simp; try with_reducible rfl)); simp only [Act.put, List.setIfInBounds_toArray, List.set_cons_zero, List.set_cons_succ]) | (refine wpP_skip rfl (by rfl) ?_; simp only [Act.put, List.setIfInBounds_toArray, List.set_cons_zero, List.set_cons_succ])
      first | (refine wpP_quiet (v := ?_) rfl (by rfl) ?_ ?_; rotate_left; (· (intro w' hw'; go_simp; try with_reducible rfl)); simp only [Act.put, List.setIfInBounds_toArray, List.set_cons_zero, List.set_cons_succ]) | (refine wpP_skip rfl (by rfl) ?_; simp only [Act.put, List.setIfInBounds_toArray, List.set_cons_zero, List.set_cons_succ])
      first | (refine wpP_quiet (v := ?_) rfl (by rfl) ?_ ?_; rotate_left; (· (intro w' hw'; go_simp; try with_reducible rfl)); simp only [Act.put, List.setIfInBounds_toArray, List.set_cons_zero, List.set_cons_succ]) | (refine wpP_skip rfl (by rfl) ?_; simp only [Act.put, List.setIfInBounds_toArray, List.set_cons_zero, List.set_cons_succ])
      first | (refine wpP_quiet (v := ?_) rfl (by rfl) ?_ ?_; rotate_left; (· (intro w' hw'; go_simp; try with_reducible rfl)); simp only [Act.put, List.setIfInBounds_toArray, List.set_cons_zero, List.set_cons_succ]) | (refine wpP_skip rfl (by rfl) ?_; simp only [Act.put, List.setIfInBounds_toArray, List.set_cons_zero, List.set_cons_succ])
      refine wpP_one ?_
      refine wpP_loud rfl (by rfl) ?_
      intro K hK
      go_simp
      refine (stRoot_any v s _ (hvd.to fb) HS.out HWF.out).mono ?_
      rintro e Vn ⟨rfl, hb⟩
      rw [HRS.out]
      unfold hv
      refine hK.out _ _ (hb.mono fb.size) ?_
      clear hK K
      try simp only [Act.put, List.setIfInBounds_toArray, List.set_cons_zero, List.set_cons_succ]
      replace fb := fb.trans (hb.mono fb.size)
      clear hb
      refine wpP_one ?_
      refine wpP_loud rfl (by rfl) ?_
      intro K hK
      go_simp
      refine (stRoot_any v2 s _ (htd.to fb) HST.out HWT.out).mono ?_
      rintro e Vn ⟨rfl, hb⟩
      rw [HRT.out]
      unfold hv
      refine hK.out _ _ (hb.mono fb.size) ?_
      clear hK K
      try simp only [Act.put, List.setIfInBounds_toArray, List.set_cons_zero, List.set_cons_succ]
      replace fb := fb.trans (hb.mono fb.size)
      clear hb
      have eqk := eq_self rs HRSL.out
      first | (refine wpP_quiet (v := ?_) rfl (by rfl) ?_ ?_; rotate_left; (· (intro w' hw'; go_simp; try with_reducible rfl)); simp only [Act.put, List.setIfInBounds_toArray, List.set_cons_zero, List.set_cons_succ]) | (refine wpP_skip rfl (by rfl) ?_; simp only [Act.put, List.setIfInBounds_toArray, List.set_cons_zero, List.set_cons_succ])
      clear eqk
      first | (refine wpP_quiet (v := ?_) rfl (by rfl) ?_ ?_; rotate_left; (· (intro w' hw'; go_simp; try with_reducible rfl)); simp only [Act.put, List.setIfInBounds_toArray, List.set_cons_zero, List.set_cons_succ]) | (refine wpP_skip rfl (by rfl) ?_; simp only [Act.put, List.setIfInBounds_toArray, List.set_cons_zero, List.set_cons_succ])
      first | (refine wpP_quiet (v := ?_) rfl (by rfl) ?_ ?_; rotate_left; (· (intro w' hw'; go_simp; try with_reducible rfl)); simp only [Act.put, List.setIfInBounds_toArray, List.set_cons_zero, List.set_cons_succ]) | (refine wpP_skip rfl (by rfl) ?_; simp only [Act.put, List.setIfInBounds_toArray, List.set_cons_zero, List.set_cons_succ])
      first | (refine wpP_quiet (v := ?_) rfl (by rfl) ?_ ?_; rotate_left; (· (intro w' hw'; go_simp; try with_reducible rfl)); simp only [Act.put, List.setIfInBounds_toArray, List.set_cons_zero, List.set_cons_succ]) | (refine wpP_skip rfl (by rfl) ?_; simp only [Act.put, List.setIfInBounds_toArray, List.set_cons_zero, List.set_cons_succ])
      refine wpP_load rfl (by rfl) _ _ rfl (w6.heap.size) 0 rfl (accC (Acc.mk (256 + m9) 1 0 0)) _ (fun w' h => (bbd.below (fb.trans h) hN6).range) Try.underlying23 rfl info_acc ?_
      simp only [Act.put, List.setIfInBounds_toArray, List.set_cons_zero, List.set_cons_succ]
      first | (refine wpP_quiet (v := ?_) rfl (by rfl) ?_ ?_; rotate_left; (· (intro w' hw'; go_simp; try with_reducible rfl)); simp only [Act.put, List.setIfInBounds_toArray, List.set_cons_zero, List.set_cons_succ]) | (refine wpP_skip rfl (by rfl) ?_; simp only [Act.put, List.setIfInBounds_toArray, List.set_cons_zero, List.set_cons_succ])
      first | (refine wpP_quiet (v := ?_) rfl (by rfl) ?_ ?_; rotate_left; (· (intro w' hw'; go_simp; try with_reducible rfl)); simp only [Act.put, List.setIfInBounds_toArray, List.set_cons_zero, List.set_cons_succ]) | (refine wpP_skip rfl (by rfl) ?_; simp only [Act.put, List.setIfInBounds_toArray, List.set_cons_zero, List.set_cons_succ])
      refine wpP_build rfl (by rfl) _ _ rfl _ built_zero_ ?_
      simp only [Act.put, List.setIfInBounds_toArray, List.set_cons_zero, List.set_cons_succ]
      refine wpP_one ?_
      refine wpP_loud rfl (by rfl) ?_
      intro K hK
      go_simp
      refine (stProve_any v2 s o _ (htd.to fb) HST.out HWT.out).mono ?_
      rintro e Vn ⟨rfl, hb⟩
      refine hK.out _ _ (hb.mono fb.size) ?_
      clear hK K
      try simp only [Act.put, List.setIfInBounds_toArray, List.set_cons_zero, List.set_cons_succ]
      replace fb := fb.trans (hb.mono fb.size)
      clear hb
      refine wpP_one ?_
      refine wpP_loud rfl (by rfl) ?_
      intro K hK
      go_simp
      refine (up_any (Acc.mk (256 + m9) 1 0 0) HBW.out (proveS s o) (proveS_len _ _) (proveS_all _ _) _).mono ?_
      rintro e Vn ⟨rfl, hb⟩
      rw [HUB.out]
      unfold hv
      refine hK.out _ _ (hb.mono fb.size) ?_
      clear hK K
      try simp only [Act.put, List.setIfInBounds_toArray, List.set_cons_zero, List.set_cons_succ]
      replace fb := fb.trans (hb.mono fb.size)
      clear hb
      have eqk := eq_self zero32 rfl
      first | (refine wpP_quiet (v := ?_) rfl (by rfl) ?_ ?_; rotate_left; (· (intro w' hw'; go_simp; try with_reducible rfl)); simp only [Act.put, List.setIfInBounds_toArray, List.set_cons_zero, List.set_cons_succ]) | (refine wpP_skip rfl (by rfl) ?_; simp only [Act.put, List.setIfInBounds_toArray, List.set_cons_zero, List.set_cons_succ])
      clear eqk
      first | (refine wpP_quiet (v := ?_) rfl (by rfl) ?_ ?_; rotate_left; (· (intro w' hw'; go_simp; try with_reducible rfl)); simp only [Act.put, List.setIfInBounds_toArray, List.set_cons_zero, List.set_cons_succ]) | (refine wpP_skip rfl (by rfl) ?_; simp only [Act.put, List.setIfInBounds_toArray, List.set_cons_zero, List.set_cons_succ])
      first | (refine wpP_quiet (v := ?_) rfl (by rfl) ?_ ?_; rotate_left; (· (intro w' hw'; go_simp; try with_reducible rfl)); simp only [Act.put, List.setIfInBounds_toArray, List.set_cons_zero, List.set_cons_succ]) | (refine wpP_skip rfl (by rfl) ?_; simp only [Act.put, List.setIfInBounds_toArray, List.set_cons_zero, List.set_cons_succ])
      first | (refine wpP_quiet (v := ?_) rfl (by rfl) ?_ ?_; rotate_left; (· (intro w' hw'; go_simp; try with_reducible rfl)); simp only [Act.put, List.setIfInBounds_toArray, List.set_cons_zero, List.set_cons_succ]) | (refine wpP_skip rfl (by rfl) ?_; simp only [Act.put, List.setIfInBounds_toArray, List.set_cons_zero, List.set_cons_succ])
      first | (refine wpP_quiet (v := ?_) rfl (by rfl) ?_ ?_; rotate_left; (· (intro w' hw'; go_simp; try with_reducible rfl)); simp only [Act.put, List.setIfInBounds_toArray, List.set_cons_zero, List.set_cons_succ]) | (refine wpP_skip rfl (by rfl) ?_; simp only [Act.put, List.setIfInBounds_toArray, List.set_cons_zero, List.set_cons_succ])
      refine wpP_build rfl (by rfl) _ _ rfl _ built_path ?_
      simp only [Act.put, List.setIfInBounds_toArray, List.set_cons_zero, List.set_cons_succ]
      refine wpP_one ?_
      refine wpP_loud rfl (by rfl) ?_
      intro K hK
      go_simp
      refine (within_capstanlaw7 cc 9 _ (by omega) (by omega) c_lo c_hi).mono ?_
      rintro e Vn ⟨rfl, rfl⟩
      rw [hm9]
      have hb := Below.refl Vn.heap.size Vn
      refine hK.out _ _ (hb.mono fb.size) ?_
      clear hK K
      try simp only [Act.put, List.setIfInBounds_toArray, List.set_cons_zero, List.set_cons_succ]
      replace fb := fb.trans (hb.mono fb.size)
      clear hb
      first | (refine wpP_quiet (v := ?_) rfl (by rfl) ?_ ?_; rotate_left; (· (intro w' hw'; go_simp; try with_reducible rfl)); simp only [Act.put, List.setIfInBounds_toArray, List.set_cons_zero, List.set_cons_succ]) | (refine wpP_skip rfl (by rfl) ?_; simp only [Act.put, List.setIfInBounds_toArray, List.set_cons_zero, List.set_cons_succ])
      refine wpP_one ?_
      refine wpP_loud rfl (by rfl) ?_
      intro K hK
      go_simp
      refine (stProve_any v2 s (-1 - m9) _ (htd.to fb) HST.out HWT.out).mono ?_
      rintro e Vn ⟨rfl, hb⟩
      rw [HPN.out]
      unfold pv
      refine hK.out _ _ (hb.mono fb.size) ?_
      clear hK K
      try simp only [Act.put, List.setIfInBounds_toArray, List.set_cons_zero, List.set_cons_succ]
      replace fb := fb.trans (hb.mono fb.size)
      clear hb
      have eqk := eq_path0
      first | (refine wpP_quiet (v := ?_) rfl (by rfl) ?_ ?_; rotate_left; (· (intro w' hw'; go_simp; try with_reducible rfl)); simp only [Act.put, List.setIfInBounds_toArray, List.set_cons_zero, List.set_cons_succ]) | (refine wpP_skip rfl (by rfl) ?_; simp only [Act.put, List.setIfInBounds_toArray, List.set_cons_zero, List.set_cons_succ])
      clear eqk
      first | (refine wpP_quiet (v := ?_) rfl (by rfl) ?_ ?_; rotate_left; (· (intro w' hw'; go_simp; try with_reducible rfl)); simp only [Act.put, List.setIfInBounds_toArray, List.set_cons_zero, List.set_cons_succ]) | (refine wpP_skip rfl (by rfl) ?_; simp only [Act.put, List.setIfInBounds_toArray, List.set_cons_zero, List.set_cons_succ])
      first | (refine wpP_quiet (v := ?_) rfl (by rfl) ?_ ?_; rotate_left; (· (intro w' hw'; go_simp; try with_reducible rfl)); simp only [Act.put, List.setIfInBounds_toArray, List.set_cons_zero, List.set_cons_succ]) | (refine wpP_skip rfl (by rfl) ?_; simp only [Act.put, List.setIfInBounds_toArray, List.set_cons_zero, List.set_cons_succ])
      refine wpP_done ?_
      go_wp2_with fail
      go_ret
      exact ⟨rfl, fd.trans (fb.mono fd.size)⟩
    · refine wp_region_P (.take 0 (.take 1 (.take 2 (.take 5 (.one 3 (.one 4 (.one 6 (.take 7 (.take 8 (.take 9 (.take 11 (.take 14 (.take 16 (.one 10 (.one 12 (.take 13 (.one 15 (.one 17 (.take 18 (.take 19 (.take 20 (.take 21 (.take 22 (.take 23 (.one 24 (.take 25 (.take 26 (.take 27 (.take 29 (.one 28 (.one 30 (.take 31 (.take 32 (.take 33 (.take 34 (.take 35 (.take 36 (.take 37 (.take 40 (.one 38 (.one 39 (.take 41 (.take 42 (.take 43 (.take 44 (.take 45 (.take 49 (.one 46 (.take 47 (.one 48 (.take 50 (.take 51 (.take 52 .done))))))))))))))))))))))))))))))))))))))))))))))))))))) (Below w7.drew.heap.size) (by kernel_rfl) (by kernel_rfl) (by kernel_rfl) (by decide +kernel) (Below.refl _) (fun _ _ _ => Below.trans) (by intro d v c a w h; first | (cases d <;> exact h) | exact absurd h.1 (by simp)) ?_
      have bxd : Blk w7.drew w5.heap.size 23 (accC x) := bx7
      have bbd : Blk w7.drew w6.heap.size 23 (accC (Acc.mk (256 + m9) 1 0 0)) := bb7
      have hvd : StV w7.drew v s := hv7.drew
      have htd : StV w7.drew v2 t := ht7.drew
      have fd : Below w.heap.size w w7.drew := f7.drew
      clear bx7 bb7 hv7 ht7 f7
      generalize w7.drew = V0 at *
      have fb : Below V0.heap.size V0 V0 := Below.refl _ _
      have hN5 := bxd.lt
      have hN6 := bbd.lt
      refine wpP_load rfl (by rfl) _ _ rfl (w5.heap.size) 0 rfl (accC x) _ (fun w' h => (bxd.below (fb.trans h) hN5).range) Try.underlying23 rfl info_acc ?_
      simp only [Act.put, List.setIfInBounds_toArray, List.set_cons_zero, List.set_cons_succ]
      first | (refine wpP_quiet (v := ?_) rfl (by rfl) ?_ ?_; rotate_left; (· (intro w' hw'; go_simp; try with_reducible rfl)); simp only [Act.put, List.setIfInBounds_toArray, List.set_cons_zero, List.set_cons_succ]) | (refine wpP_skip rfl (by rfl) ?_; simp only [Act.put, List.setIfInBounds_toArray, List.set_cons_zero, List.set_cons_succ])
      first | (refine wpP_quiet (v := ?_) rfl (by rfl) ?_ ?_; rotate_left; (· (intro w' hw'; go_simp; try with_reducible rfl)); simp only [Act.put, List.setIfInBounds_toArray, List.set_cons_zero, List.set_cons_succ]) | (refine wpP_skip rfl (by rfl) ?_; simp only [Act.put, List.setIfInBounds_toArray, List.set_cons_zero, List.set_cons_succ])
      first | (refine wpP_quiet (v := ?_) rfl (by rfl) ?_ ?_; rotate_left; (· (intro w' hw'; go_simp; try with_reducible rfl)); simp only [Act.put, List.setIfInBounds_toArray, List.set_cons_zero, List.set_cons_succ]) | (refine wpP_skip rfl (by rfl) ?_; simp only [Act.put, List.setIfInBounds_toArray, List.set_cons_zero, List.set_cons_succ])
      refine wpP_one ?_
      refine wpP_loud rfl (by rfl) ?_
      intro K hK
      go_simp
      refine (stProve_any v2 t o _ (htd.to fb) HST.out HWT.out).mono ?_
      rintro e Vn ⟨rfl, hb⟩
      refine hK.out _ _ (hb.mono fb.size) ?_
      clear hK K
      try simp only [Act.put, List.setIfInBounds_toArray, List.set_cons_zero, List.set_cons_succ]
      replace fb := fb.trans (hb.mono fb.size)
      clear hb
      refine wpP_one ?_
      refine wpP_loud rfl (by rfl) ?_
      intro K hK
      go_simp
      refine (up_any x HXW.out (proveS t o) (proveS_len _ _) (proveS_all _ _) _).mono ?_
      rintro e Vn ⟨rfl, hb⟩
      rw [HUX.out]
      unfold hv
      refine hK.out _ _ (hb.mono fb.size) ?_
      clear hK K
      try simp only [Act.put, List.setIfInBounds_toArray, List.set_cons_zero, List.set_cons_succ]
      replace fb := fb.trans (hb.mono fb.size)
      clear hb
      refine wpP_one ?_
      refine wpP_loud rfl (by rfl) ?_
      intro K hK
      go_simp
      refine (stRoot_any v2 t _ (htd.to fb) HST.out HWT.out).mono ?_
      rintro e Vn ⟨rfl, hb⟩
      rw [HRT.out]
      unfold hv
      refine hK.out _ _ (hb.mono fb.size) ?_
      clear hK K
      try simp only [Act.put, List.setIfInBounds_toArray, List.set_cons_zero, List.set_cons_succ]
      replace fb := fb.trans (hb.mono fb.size)
      clear hb
      have eqk := eq_self rt HRTL.out
      first | (refine wpP_quiet (v := ?_) rfl (by rfl) ?_ ?_; rotate_left; (· (intro w' hw'; go_simp; try with_reducible rfl)); simp only [Act.put, List.setIfInBounds_toArray, List.set_cons_zero, List.set_cons_succ]) | (refine wpP_skip rfl (by rfl) ?_; simp only [Act.put, List.setIfInBounds_toArray, List.set_cons_zero, List.set_cons_succ])
      clear eqk
      first | (refine wpP_quiet (v := ?_) rfl (by rfl) ?_ ?_; rotate_left; (· (intro w' hw'; go_simp; try with_reducible rfl)); simp only [Act.put, List.setIfInBounds_toArray, List.set_cons_zero, List.set_cons_succ]) | (refine wpP_skip rfl (by rfl) ?_; simp only [Act.put, List.setIfInBounds_toArray, List.set_cons_zero, List.set_cons_succ])
      first | (refine wpP_quiet (v := ?_) rfl (by rfl) ?_ ?_; rotate_left; (· (intro w' hw'; go_simp; try with_reducible rfl)); simp only [Act.put, List.setIfInBounds_toArray, List.set_cons_zero, List.set_cons_succ]) | (refine wpP_skip rfl (by rfl) ?_; simp only [Act.put, List.setIfInBounds_toArray, List.set_cons_zero, List.set_cons_succ])
      first | (refine wpP_quiet (v := ?_) rfl (by rfl) ?_ ?_; rotate_left; (· (intro w' hw'; go_simp; try with_reducible rfl)); simp only [Act.put, List.setIfInBounds_toArray, List.set_cons_zero, List.set_cons_succ]) | (refine wpP_skip rfl (by rfl) ?_; simp only [Act.put, List.setIfInBounds_toArray, List.set_cons_zero, List.set_cons_succ])
      first | (refine wpP_quiet (v := ?_) rfl (by rfl) ?_ ?_; rotate_left; (· (intro w' hw'; go_simp; try with_reducible rfl)); simp only [Act.put, List.setIfInBounds_toArray, List.set_cons_zero, List.set_cons_succ]) | (refine wpP_skip rfl (by rfl) ?_; simp only [Act.put, List.setIfInBounds_toArray, List.set_cons_zero, List.set_cons_succ])
      first | (refine wpP_quiet (v := ?_) rfl (by rfl) ?_ ?_; rotate_left; (· (intro w' hw'; go_simp; try with_reducible rfl)); simp only [Act.put, List.setIfInBounds_toArray, List.set_cons_zero, List.set_cons_succ]) | (refine wpP_skip rfl (by rfl) ?_; simp only [Act.put, List.setIfInBounds_toArray, List.set_cons_zero, List.set_cons_succ])
      refine wpP_one ?_
      refine wpP_loud rfl (by rfl) ?_
      intro K hK
      go_simp
      refine (stRoot_any v s _ (hvd.to fb) HS.out HWF.out).mono ?_
      rintro e Vn ⟨rfl, hb⟩
      rw [HRS.out]
      unfold hv
      refine hK.out _ _ (hb.mono fb.size) ?_
      clear hK K
      try simp only [Act.put, List.setIfInBounds_toArray, List.set_cons_zero, List.set_cons_succ]
      replace fb := fb.trans (hb.mono fb.size)
      clear hb
      refine wpP_one ?_
      refine wpP_loud rfl (by rfl) ?_
      intro K hK
      go_simp
      refine (stRoot_any v2 t _ (htd.to fb) HST.out HWT.out).mono ?_
      rintro e Vn ⟨rfl, hb⟩
      rw [HRT.out]
      unfold hv
      refine hK.out _ _ (hb.mono fb.size) ?_
      clear hK K
      try simp only [Act.put, List.setIfInBounds_toArray, List.set_cons_zero, List.set_cons_succ]
      replace fb := fb.trans (hb.mono fb.size)
      clear hb
      have eqk := eq_hash rs rt HRSL.out HRTL.out
      first | (refine wpP_quiet (v := ?_) rfl (by rfl) ?_ ?_; rotate_left; (· (intro w' hw'; go_simp; try with_reducible rfl)); simp only [Act.put, List.setIfInBounds_toArray, List.set_cons_zero, List.set_cons_succ]) | (refine wpP_skip rfl (by rfl) ?_; simp only [Act.put, List.setIfInBounds_toArray, List.set_cons_zero, List.set_cons_succ])
      clear eqk
      refine wpP_one ?_
      refine wpP_loud rfl (by rfl) ?_
      intro K hK
      go_simp
      refine (stRefRoot_any v s _ (hvd.to fb) HS.out HWF.out).mono ?_
      rintro e Vn ⟨rfl, hb⟩
      rw [HRS.out]
      unfold hv
      refine hK.out _ _ (hb.mono fb.size) ?_
      clear hK K
      try simp only [Act.put, List.setIfInBounds_toArray, List.set_cons_zero, List.set_cons_succ]
      replace fb := fb.trans (hb.mono fb.size)
      clear hb
      refine wpP_one ?_
      refine wpP_loud rfl (by rfl) ?_
      intro K hK
      go_simp
      refine (stRefRoot_any v2 t _ (htd.to fb) HST.out HWT.out).mono ?_
      rintro e Vn ⟨rfl, hb⟩
      rw [HRT.out]
      unfold hv
      refine hK.out _ _ (hb.mono fb.size) ?_
      clear hK K
      try simp only [Act.put, List.setIfInBounds_toArray, List.set_cons_zero, List.set_cons_succ]
      replace fb := fb.trans (hb.mono fb.size)
      clear hb
      have eqk := eq_hash rs rt HRSL.out HRTL.out
      first | (refine wpP_quiet (v := ?_) rfl (by rfl) ?_ ?_; rotate_left; (· (intro w' hw'; go_simp; try with_reducible rfl)); simp only [Act.put, List.setIfInBounds_toArray, List.set_cons_zero, List.set_cons_succ]) | (refine wpP_skip rfl (by rfl) ?_; simp only [Act.put, List.setIfInBounds_toArray, List.set_cons_zero, List.set_cons_succ])
      clear eqk
      first | (refine wpP_quiet (v := ?_) rfl (by rfl) ?_ ?_; rotate_left; (· (intro w' hw'; go_simp; try with_reducible rfl)); simp only [Act.put, List.setIfInBounds_toArray, List.set_cons_zero, List.set_cons_succ]) | (refine wpP_skip rfl (by rfl) ?_; simp only [Act.put, List.setIfInBounds_toArray, List.set_cons_zero, List.set_cons_succ])
      first | (refine wpP_quiet (v := ?_) rfl (by rfl) ?_ ?_; rotate_left; (· (intro w' hw'; go_simp; try with_reducible rfl)); simp only [Act.put, List.setIfInBounds_toArray, List.set_cons_zero, List.set_cons_succ]) | (refine wpP_skip rfl (by rfl) ?_; simp only [Act.put, List.setIfInBounds_toArray, List.set_cons_zero, List.set_cons_succ])
      first | (refine wpP_quiet (v := ?_) rfl (by rfl) ?_ ?_; rotate_left; (· (intro w' hw'; go_simp; try with_reducible rfl)); simp only [Act.put, List.setIfInBounds_toArray, List.set_cons_zero, List.set_cons_succ]) | (refine wpP_skip rfl (by rfl) ?_; simp only [Act.put, List.setIfInBounds_toArray, List.set_cons_zero, List.set_cons_succ])
      first | (refine wpP_quiet (v := ?_) rfl (by rfl) ?_ ?_; rotate_left; (· (intro w' hw'; go_simp; try with_reducible rfl)); simp only [Act.put, List.setIfInBounds_toArray, List.set_cons_zero, List.set_cons_succ]) | (refine wpP_skip rfl (by rfl) ?_; simp only [Act.put, List.setIfInBounds_toArray, List.set_cons_zero, List.set_cons_succ])
      first | (refine wpP_quiet (v := ?_) rfl (by rfl) ?_ ?_; rotate_left; (· (intro w' hw'; go_simp; try with_reducible rfl)); simp only [Act.put, List.setIfInBounds_toArray, List.set_cons_zero, List.set_cons_succ]) | (refine wpP_skip rfl (by rfl) ?_; simp only [Act.put, List.setIfInBounds_toArray, List.set_cons_zero, List.set_cons_succ])
      refine wpP_one ?_
      refine wpP_loud rfl (by rfl) ?_
      intro K hK
      go_simp
      refine (stSame_any v v2 s t _ (hvd.to fb) (htd.to fb) HS.out).mono ?_
      rintro e Vn ⟨rfl, hb⟩
      rw [decide_eq_false hst]
      refine hK.out _ _ (hb.mono fb.size) ?_
      clear hK K
      try simp only [Act.put, List.setIfInBounds_toArray, List.set_cons_zero, List.set_cons_succ]
      replace fb := fb.trans (hb.mono fb.size)
      clear hb
      first | (refine wpP_quiet (v := ?_) rfl (by rfl) ?_ ?_; rotate_left; (· (intro w' hw'; go_simp; try with_reducible rfl)); simp only [Act.put, List.setIfInBounds_toArray, List.set_cons_zero, List.set_cons_succ]) | (refine wpP_skip rfl (by rfl) ?_; simp only [Act.put, List.setIfInBounds_toArray, List.set_cons_zero, List.set_cons_succ])
      first | (refine wpP_quiet (v := ?_) rfl (by rfl) ?_ ?_; rotate_left; (· (intro w' hw'; go_simp; try with_reducible rfl)); simp only [Act.put, List.setIfInBounds_toArray, List.set_cons_zero, List.set_cons_succ]) | (refine wpP_skip rfl (by rfl) ?_; simp only [Act.put, List.setIfInBounds_toArray, List.set_cons_zero, List.set_cons_succ])
      first | (refine wpP_quiet (v := ?_) rfl (by rfl) ?_ ?_; rotate_left; (· (intro w' hw'; go_simp; try with_reducible rfl)); simp only [Act.put, List.setIfInBounds_toArray, List.set_cons_zero, List.set_cons_succ]) | (refine wpP_skip rfl (by rfl) ?_; simp only [Act.put, List.setIfInBounds_toArray, List.set_cons_zero, List.set_cons_succ])
      first | (refine wpP_quiet (v := ?_) rfl (by rfl) ?_ ?_; rotate_left; (· (intro w' hw'; go_simp; try with_reducible rfl)); simp only [Act.put, List.setIfInBounds_toArray, List.set_cons_zero, List.set_cons_succ]) | (refine wpP_skip rfl (by rfl) ?_; simp only [Act.put, List.setIfInBounds_toArray, List.set_cons_zero, List.set_cons_succ])
      first | (refine wpP_val (v := ?_) (Below.refl _) rfl (by rfl) ?_ ?_; rotate_left; (· (go_simp; try with_reducible rfl)); simp only [Act.put, List.setIfInBounds_toArray, List.set_cons_zero, List.set_cons_succ]) | (refine wpP_skip' (Below.refl _) rfl (by rfl) ?_; simp only [Act.put, List.setIfInBounds_toArray, List.set_cons_zero, List.set_cons_succ])
      first | (refine wpP_val (v := ?_) (Below.refl _) rfl (by rfl) ?_ ?_; rotate_left; (· (go_simp; try with_reducible rfl)); simp only [Act.put, List.setIfInBounds_toArray, List.set_cons_zero, List.set_cons_succ]) | (refine wpP_skip' (Below.refl _) rfl (by rfl) ?_; simp only [Act.put, List.setIfInBounds_toArray, List.set_cons_zero, List.set_cons_succ])
      first | (refine wpP_quiet (v := ?_) rfl (by rfl) ?_ ?_; rotate_left; (· (intro w' hw'; go_simp; try with_reducible rfl)); simp only [Act.put, List.setIfInBounds_toArray, List.set_cons_zero, List.set_cons_succ]) | (refine wpP_skip rfl (by rfl) ?_; simp only [Act.put, List.setIfInBounds_toArray, List.set_cons_zero, List.set_cons_succ])
      first | (refine wpP_quiet (v := ?_) rfl (by rfl) ?_ ?_; rotate_left; (· (intro w' hw'; go_simp; try with_reducible rfl)); simp only [Act.put, List.setIfInBounds_toArray, List.set_cons_zero, List.set_cons_succ]) | (refine wpP_skip rfl (by rfl) ?_; simp only [Act.put, List.setIfInBounds_toArray, List.set_cons_zero, List.set_cons_succ])
      first | (refine wpP_quiet (v := ?_) rfl (by rfl) ?_ ?_; rotate_left; (· (intro w' hw'; go_simp; try with_reducible rfl)); simp only [Act.put, List.setIfInBounds_toArray, List.set_cons_zero, List.set_cons_succ]) | (refine wpP_skip rfl (by rfl) ?_; simp only [Act.put, List.setIfInBounds_toArray, List.set_cons_zero, List.set_cons_succ])
      first | (refine wpP_quiet (v := ?_) rfl (by rfl) ?_ ?_; rotate_left; (· (intro w' hw'; go_simp; try with_reducible rfl)); simp only [Act.put, List.setIfInBounds_toArray, List.set_cons_zero, List.set_cons_succ]) | (refine wpP_skip rfl (by rfl) ?_; simp only [Act.put, List.setIfInBounds_toArray, List.set_cons_zero, List.set_cons_succ])
      refine wpP_load rfl (by rfl) _ _ rfl (w6.heap.size) 0 rfl (accC (Acc.mk (256 + m9) 1 0 0)) _ (fun w' h => (bbd.below (fb.trans h) hN6).range) Try.underlying23 rfl info_acc ?_
      simp only [Act.put, List.setIfInBounds_toArray, List.set_cons_zero, List.set_cons_succ]
      first | (refine wpP_quiet (v := ?_) rfl (by rfl) ?_ ?_; rotate_left; (· (intro w' hw'; go_simp; try with_reducible rfl)); simp only [Act.put, List.setIfInBounds_toArray, List.set_cons_zero, List.set_cons_succ]) | (refine wpP_skip rfl (by rfl) ?_; simp only [Act.put, List.setIfInBounds_toArray, List.set_cons_zero, List.set_cons_succ])
      first | (refine wpP_quiet (v := ?_) rfl (by rfl) ?_ ?_; rotate_left; (· (intro w' hw'; go_simp; try with_reducible rfl)); simp only [Act.put, List.setIfInBounds_toArray, List.set_cons_zero, List.set_cons_succ]) | (refine wpP_skip rfl (by rfl) ?_; simp only [Act.put, List.setIfInBounds_toArray, List.set_cons_zero, List.set_cons_succ])
      refine wpP_build rfl (by rfl) _ _ rfl _ built_zero_ ?_
      simp only [Act.put, List.setIfInBounds_toArray, List.set_cons_zero, List.set_cons_succ]
      refine wpP_one ?_
      refine wpP_loud rfl (by rfl) ?_
      intro K hK
      go_simp
      refine (stProve_any v2 t o _ (htd.to fb) HST.out HWT.out).mono ?_
      rintro e Vn ⟨rfl, hb⟩
      refine hK.out _ _ (hb.mono fb.size) ?_
      clear hK K
      try simp only [Act.put, List.setIfInBounds_toArray, List.set_cons_zero, List.set_cons_succ]
      replace fb := fb.trans (hb.mono fb.size)
      clear hb
      refine wpP_one ?_
      refine wpP_loud rfl (by rfl) ?_
      intro K hK
      go_simp
      refine (up_any (Acc.mk (256 + m9) 1 0 0) HBW.out (proveS t o) (proveS_len _ _) (proveS_all _ _) _).mono ?_
      rintro e Vn ⟨rfl, hb⟩
      rw [HUB.out]
      unfold hv
      refine hK.out _ _ (hb.mono fb.size) ?_
      clear hK K
      try simp only [Act.put, List.setIfInBounds_toArray, List.set_cons_zero, List.set_cons_succ]
      replace fb := fb.trans (hb.mono fb.size)
      clear hb
      have eqk := eq_self zero32 rfl
      first | (refine wpP_quiet (v := ?_) rfl (by rfl) ?_ ?_; rotate_left; (· (intro w' hw'; go_simp; try with_reducible rfl)); simp only [Act.put, List.setIfInBounds_toArray, List.set_cons_zero, List.set_cons_succ]) | (refine wpP_skip rfl (by rfl) ?_; simp only [Act.put, List.setIfInBounds_toArray, List.set_cons_zero, List.set_cons_succ])
      clear eqk
      first | (refine wpP_quiet (v := ?_) rfl (by rfl) ?_ ?_; rotate_left; (· (intro w' hw'; go_simp; try with_reducible rfl)); simp only [Act.put, List.setIfInBounds_toArray, List.set_cons_zero, List.set_cons_succ]) | (refine wpP_skip rfl (by rfl) ?_; simp only [Act.put, List.setIfInBounds_toArray, List.set_cons_zero, List.set_cons_succ])
      first | (refine wpP_quiet (v := ?_) rfl (by rfl) ?_ ?_; rotate_left; (· (intro w' hw'; go_simp; try with_reducible rfl)); simp only [Act.put, List.setIfInBounds_toArray, List.set_cons_zero, List.set_cons_succ]) | (refine wpP_skip rfl (by rfl) ?_; simp only [Act.put, List.setIfInBounds_toArray, List.set_cons_zero, List.set_cons_succ])
      first | (refine wpP_quiet (v := ?_) rfl (by rfl) ?_ ?_; rotate_left; (· (intro w' hw'; go_simp; try with_reducible rfl)); simp only [Act.put, List.setIfInBounds_toArray, List.set_cons_zero, List.set_cons_succ]) | (refine wpP_skip rfl (by rfl) ?_; simp only [Act.put, List.setIfInBounds_toArray, List.set_cons_zero, List.set_cons_succ])
      first | (refine wpP_quiet (v := ?_) rfl (by rfl) ?_ ?_; rotate_left; (· (intro w' hw'; go_simp; try with_reducible rfl)); simp only [Act.put, List.setIfInBounds_toArray, List.set_cons_zero, List.set_cons_succ]) | (refine wpP_skip rfl (by rfl) ?_; simp only [Act.put, List.setIfInBounds_toArray, List.set_cons_zero, List.set_cons_succ])
      refine wpP_build rfl (by rfl) _ _ rfl _ built_path ?_
      simp only [Act.put, List.setIfInBounds_toArray, List.set_cons_zero, List.set_cons_succ]
      refine wpP_one ?_
      refine wpP_loud rfl (by rfl) ?_
      intro K hK
      go_simp
      refine (within_capstanlaw7 cc 9 _ (by omega) (by omega) c_lo c_hi).mono ?_
      rintro e Vn ⟨rfl, rfl⟩
      rw [hm9]
      have hb := Below.refl Vn.heap.size Vn
      refine hK.out _ _ (hb.mono fb.size) ?_
      clear hK K
      try simp only [Act.put, List.setIfInBounds_toArray, List.set_cons_zero, List.set_cons_succ]
      replace fb := fb.trans (hb.mono fb.size)
      clear hb
      first | (refine wpP_quiet (v := ?_) rfl (by rfl) ?_ ?_; rotate_left; (· (intro w' hw'; go_simp; try with_reducible rfl)); simp only [Act.put, List.setIfInBounds_toArray, List.set_cons_zero, List.set_cons_succ]) | (refine wpP_skip rfl (by rfl) ?_; simp only [Act.put, List.setIfInBounds_toArray, List.set_cons_zero, List.set_cons_succ])
      refine wpP_one ?_
      refine wpP_loud rfl (by rfl) ?_
      intro K hK
      go_simp
      refine (stProve_any v2 t (-1 - m9) _ (htd.to fb) HST.out HWT.out).mono ?_
      rintro e Vn ⟨rfl, hb⟩
      rw [HPN.out]
      unfold pv
      refine hK.out _ _ (hb.mono fb.size) ?_
      clear hK K
      try simp only [Act.put, List.setIfInBounds_toArray, List.set_cons_zero, List.set_cons_succ]
      replace fb := fb.trans (hb.mono fb.size)
      clear hb
      have eqk := eq_path0
      first | (refine wpP_quiet (v := ?_) rfl (by rfl) ?_ ?_; rotate_left; (· (intro w' hw'; go_simp; try with_reducible rfl)); simp only [Act.put, List.setIfInBounds_toArray, List.set_cons_zero, List.set_cons_succ]) | (refine wpP_skip rfl (by rfl) ?_; simp only [Act.put, List.setIfInBounds_toArray, List.set_cons_zero, List.set_cons_succ])
      clear eqk
      first | (refine wpP_quiet (v := ?_) rfl (by rfl) ?_ ?_; rotate_left; (· (intro w' hw'; go_simp; try with_reducible rfl)); simp only [Act.put, List.setIfInBounds_toArray, List.set_cons_zero, List.set_cons_succ]) | (refine wpP_skip rfl (by rfl) ?_; simp only [Act.put, List.setIfInBounds_toArray, List.set_cons_zero, List.set_cons_succ])
      first | (refine wpP_quiet (v := ?_) rfl (by rfl) ?_ ?_; rotate_left; (· (intro w' hw'; go_simp; try with_reducible rfl)); simp only [Act.put, List.setIfInBounds_toArray, List.set_cons_zero, List.set_cons_succ]) | (refine wpP_skip rfl (by rfl) ?_; simp only [Act.put, List.setIfInBounds_toArray, List.set_cons_zero, List.set_cons_succ])
      refine wpP_done ?_
      go_wp2_with fail
      go_ret
      exact ⟨rfl, fd.trans (fb.mono fd.size)⟩
  · have t1 : (i == j) = false := by simpa using hij
    have HO := Lib.hid hj1
    obtain ⟨o, ho⟩ : ∃ o, o = j := ⟨_, rfl⟩
    rw [← ho] at HO t1 ⊢
    clear hi1 hj1 hij ho
    go_wp2_with fail
    refine (within_capstanlaw7 cc 100 w2 (by omega) (by omega) c_lo c_hi).mono ?_
    rintro e w2' ⟨rfl, rfl⟩
    obtain ⟨m, hm100⟩ : ∃ m, cc % 100 = m := ⟨_, rfl⟩
    have hmb : 0 ≤ m ∧ m < 100 := by omega
    rw [hm100]
    have HYS : Hid (Acc.small (Acc.mk i m 0 0)) := (show Acc.small _ from ⟨by show _ ∧ _; simp only []; omega, (by decide : (0 : Int) ≤ 0 ∧ (0 : Int) ≤ 1000), (by decide : (-1000 : Int) ≤ 0 ∧ (0 : Int) ≤ 1000)⟩)
    have hst' := HS.out.put (a := Acc.mk i m 0 0) HI.out.1 HI.out.2
    have hsmt := small_put HS.out HSM.out HYS.out
    go_wp2_with fail
    refine (stPut_any v s (Acc.mk i m 0 0) w2 hv2 HS.out).mono ?_
    rintro e w4 ⟨v2, rfl, ht4, h4⟩
    have hv4 := hv2.to h4
    have f4 := f2.trans (h4.mono f2.size)
    obtain ⟨t, ht⟩ : ∃ t, putS s (Acc.mk i m 0 0) = t := ⟨_, rfl⟩
    rw [ht] at hst' hsmt ht4
    have HST := Lib.hid hst'
    have HWT := Lib.hid (st_wf hst' hsmt)
    have hux := up_get HST.out HO.out
    have hxs := get_small hsmt o
    have hxi := get_id t o
    clear hst' ht hv2 f2 h4 hm100
    go_wp2_with fail
    refine (stGet_any v2 t o w4 ht4 HST.out).mono ?_
    rintro e w5 ⟨rfl, h5⟩
    obtain ⟨x, hx⟩ : ∃ x, getS t o = x := ⟨_, rfl⟩
    rw [hx] at hux hxs hxi ⊢
    have HXW : Hid x.wf := (show x.wf from wf_of_small (by rw [hxi]; exact HO.out) hxs)
    obtain ⟨rt, hrt⟩ : ∃ r, rootJ 8 (leavesL t) = r := ⟨_, rfl⟩
    obtain ⟨rs, hrs⟩ : ∃ r, rootJ 8 (leavesL s) = r := ⟨_, rfl⟩
    have hrtl := root_len t
    have hrsl := root_len s
    rw [hrt] at hux hrtl
    rw [hrs] at hrsl
    have HRT := Lib.hid hrt
    have HRS := Lib.hid hrs
    have HRTL := Lib.hid hrtl
    have HRSL := Lib.hid hrsl
    have HUX := Lib.hid hux
    have hv5 := hv4.to h5
    have ht5 := ht4.to h5
    have f5 := f4.trans (h5.mono f4.size)
    clear hx hxs hxi hux hrt hrs hrtl hrsl hsmt hv4 ht4 f4 h5
    unfold accV accC
    go_wp2_with fail
    have h6 : Below w5.heap.size w5 (w5.alloc (.cells #[.int .i64 x.id, .int .i64 x.bal, .int .i64 x.non, .int .i64 x.dat] 23)) := (Below.refl _ _).alloc (Nat.le_refl _) _
    have bx6 : Blk (w5.alloc (.cells #[.int .i64 x.id, .int .i64 x.bal, .int .i64 x.non, .int .i64 x.dat] 23)) w5.heap.size 23 (accC x) := Blk.new w5 #[.int .i64 x.id, .int .i64 x.bal, .int .i64 x.non, .int .i64 x.dat] 23
    have hv6 := hv5.to h6
    have ht6 := ht5.to h6
    have f6 := f5.trans (h6.mono f5.size)
    clear hv5 ht5 f5 h6
    generalize w5.alloc (.cells #[.int .i64 x.id, .int .i64 x.bal, .int .i64 x.non, .int .i64 x.dat] 23) = w6 at *
    refine (within_capstanlaw7 cc 9 w6 (by omega) (by omega) c_lo c_hi).mono ?_
    rintro e w6' ⟨rfl, rfl⟩
    obtain ⟨m9, hm9⟩ : ∃ m, cc % 9 = m := ⟨_, rfl⟩
    have hm9b : 0 ≤ m9 ∧ m9 < 9 := by omega
    rw [hm9]
    go_wp2_with fail
    have h7 : Below w6.heap.size w6 (w6.alloc (.cells #[.int .i64 (256 + m9), .int .i64 1, .int .i64 0, .int .i64 0] 23)) := (Below.refl _ _).alloc (Nat.le_refl _) _
    have bb7 : Blk (w6.alloc (.cells #[.int .i64 (256 + m9), .int .i64 1, .int .i64 0, .int .i64 0] 23)) w6.heap.size 23 (accC (Acc.mk (256 + m9) 1 0 0)) := Blk.new w6 #[.int .i64 (256 + m9), .int .i64 1, .int .i64 0, .int .i64 0] 23
    have bx7 := bx6.to h7
    have hv7 := hv6.to h7
    have ht7 := ht6.to h7
    have f7 := f6.trans (h7.mono f6.size)
    clear bx6 hv6 ht6 f6 h7
    generalize w6.alloc (.cells #[.int .i64 (256 + m9), .int .i64 1, .int .i64 0, .int .i64 0] 23) = w7 at *
    have HBW : Hid (Acc.wf (Acc.mk (256 + m9) 1 0 0)) := (show Acc.wf _ from ⟨by show _ ∧ _; simp only []; omega, by show _ ∧ _; simp only []; omega, by show _ ∧ _; simp only []; omega, by show _ ∧ _; simp only []; omega⟩)
    have HUB : Hid (upA (Acc.mk (256 + m9) 1 0 0) (proveS t o) = zero32) := (show _ = _ by unfold upA; rw [if_neg (by simp only []; omega)])
    have HPN : Hid (proveS t (-1 - m9) = path0) := (show _ = _ by unfold proveS; rw [if_neg (by omega)])
    have wn : IntKind.i64.wrap (-1 - m9) = -1 - m9 := IntWalk.i64_in _ (by omega)
    by_cases hst : s = t
    · have hrst : rs = rt := by rw [← HRS.out, ← HRT.out, hst]
      subst hst
      subst hrst
      refine wp_region_P (.take 0 (.take 1 (.take 2 (.take 5 (.one 3 (.one 4 (.one 6 (.take 7 (.take 8 (.take 9 (.take 11 (.take 14 (.take 16 (.one 10 (.one 12 (.take 13 (.one 15 (.one 17 (.take 18 (.take 19 (.take 20 (.take 21 (.take 22 (.take 23 (.one 24 (.take 25 (.take 26 (.take 27 (.take 29 (.one 28 (.one 30 (.take 31 (.take 32 (.take 33 (.take 34 (.take 35 (.take 36 (.take 37 (.take 40 (.one 38 (.one 39 (.take 41 (.take 42 (.take 43 (.take 44 (.take 45 (.take 49 (.one 46 (.take 47 (.one 48 (.take 50 (.take 51 (.take 52 .done))))))))))))))))))))))))))))))))))))))))))))))))))))) (Below w7.drew.heap.size) (by kernel_rfl) (by kernel_rfl) (by kernel_rfl) (by decide +kernel) (Below.refl _) (fun _ _ _ => Below.trans) (by intro d v c a w h; first | (cases d <;> exact h) | exact absurd h.1 (by simp)) ?_
      have bxd : Blk w7.drew w5.heap.size 23 (accC x) := bx7
      have bbd : Blk w7.drew w6.heap.size 23 (accC (Acc.mk (256 + m9) 1 0 0)) := bb7
      have hvd : StV w7.drew v s := hv7.drew
      have htd : StV w7.drew v2 s := ht7.drew
      have fd : Below w.heap.size w w7.drew := f7.drew
      clear bx7 bb7 hv7 ht7 f7
      generalize w7.drew = V0 at *
      have fb : Below V0.heap.size V0 V0 := Below.refl _ _
      have hN5 := bxd.lt
      have hN6 := bbd.lt
      refine wpP_load rfl (by rfl) _ _ rfl (w5.heap.size) 0 rfl (accC x) _ (fun w' h => (bxd.below (fb.trans h) hN5).range) Try.underlying23 rfl info_acc ?_
      simp only [Act.put, List.setIfInBounds_toArray, List.set_cons_zero, List.set_cons_succ]
      first | (refine wpP_quiet (v := ?_) rfl (by rfl) ?_ ?_; rotate_left; (· (intro w' hw'; go_simp; try with_reducible rfl)); simp only [Act.put, List.setIfInBounds_toArray, List.set_cons_zero, List.set_cons_succ]) | (refine wpP_skip rfl (by rfl) ?_; simp only [Act.put, List.setIfInBounds_toArray, List.set_cons_zero, List.set_cons_succ])
      first | (refine wpP_quiet (v := ?_) rfl (by rfl) ?_ ?_; rotate_left; (· (intro w' hw'; go_simp; try with_reducible rfl)); simp only [Act.put, List.setIfInBounds_toArray, List.set_cons_zero, List.set_cons_succ]) | (refine wpP_skip rfl (by rfl) ?_; simp only [Act.put, List.setIfInBounds_toArray, List.set_cons_zero, List.set_cons_succ])
      first | (refine wpP_quiet (v := ?_) rfl (by rfl) ?_ ?_; rotate_left; (· (intro w' hw'; go_simp; try with_reducible rfl)); simp only [Act.put, List.setIfInBounds_toArray, List.set_cons_zero, List.set_cons_succ]) | (refine wpP_skip rfl (by rfl) ?_; simp only [Act.put, List.setIfInBounds_toArray, List.set_cons_zero, List.set_cons_succ])
      refine wpP_one ?_
      refine wpP_loud rfl (by rfl) ?_
      intro K hK
      go_simp
      refine (stProve_any v2 s o _ (htd.to fb) HST.out HWT.out).mono ?_
      rintro e Vn ⟨rfl, hb⟩
      refine hK.out _ _ (hb.mono fb.size) ?_
      clear hK K
      try simp only [Act.put, List.setIfInBounds_toArray, List.set_cons_zero, List.set_cons_succ]
      replace fb := fb.trans (hb.mono fb.size)
      clear hb
      refine wpP_one ?_
      refine wpP_loud rfl (by rfl) ?_
      intro K hK
      go_simp
      refine (up_any x HXW.out (proveS s o) (proveS_len _ _) (proveS_all _ _) _).mono ?_
      rintro e Vn ⟨rfl, hb⟩
      rw [HUX.out]
      unfold hv
      refine hK.out _ _ (hb.mono fb.size) ?_
      clear hK K
      try simp only [Act.put, List.setIfInBounds_toArray, List.set_cons_zero, List.set_cons_succ]
      replace fb := fb.trans (hb.mono fb.size)
      clear hb
      refine wpP_one ?_
      refine wpP_loud rfl (by rfl) ?_
      intro K hK
      go_simp
      refine (stRoot_any v2 s _ (htd.to fb) HST.out HWT.out).mono ?_
      rintro e Vn ⟨rfl, hb⟩
      rw [HRT.out]
      unfold hv
      refine hK.out _ _ (hb.mono fb.size) ?_
      clear hK K
      try simp only [Act.put, List.setIfInBounds_toArray, List.set_cons_zero, List.set_cons_succ]
      replace fb := fb.trans (hb.mono fb.size)
      clear hb
      have eqk := eq_self rs HRTL.out
      first | (refine wpP_quiet (v := ?_) rfl (by rfl) ?_ ?_; rotate_left; (· (intro w' hw'; go_simp; try with_reducible rfl)); simp only [Act.put, List.setIfInBounds_toArray, List.set_cons_zero, List.set_cons_succ]) | (refine wpP_skip rfl (by rfl) ?_; simp only [Act.put, List.setIfInBounds_toArray, List.set_cons_zero, List.set_cons_succ])
      clear eqk
      first | (refine wpP_quiet (v := ?_) rfl (by rfl) ?_ ?_; rotate_left; (· (intro w' hw'; go_simp; try with_reducible rfl)); simp only [Act.put, List.setIfInBounds_toArray, List.set_cons_zero, List.set_cons_succ]) | (refine wpP_skip rfl (by rfl) ?_; simp only [Act.put, List.setIfInBounds_toArray, List.set_cons_zero, List.set_cons_succ])
      first | (refine wpP_quiet (v := ?_) rfl (by rfl) ?_ ?_; rotate_left; (· (intro w' hw'; go_simp; try with_reducible rfl)); simp only [Act.put, List.setIfInBounds_toArray, List.set_cons_zero, List.set_cons_succ]) | (refine wpP_skip rfl (by rfl) ?_; simp only [Act.put, List.setIfInBounds_toArray, List.set_cons_zero, List.set_cons_succ])
      first | (refine wpP_quiet (v := ?_) rfl (by rfl) ?_ ?_; rotate_left; (· (intro w' hw'; go_simp; try with_reducible rfl)); simp only [Act.put, List.setIfInBounds_toArray, List.set_cons_zero, List.set_cons_succ]) | (refine wpP_skip rfl (by rfl) ?_; simp only [Act.put, List.setIfInBounds_toArray, List.set_cons_zero, List.set_cons_succ])
      first | (refine wpP_quiet (v := ?_) rfl (by rfl) ?_ ?_; rotate_left; (· (intro w' hw'; go_simp; try with_reducible rfl)); simp only [Act.put, List.setIfInBounds_toArray, List.set_cons_zero, List.set_cons_succ]) | (refine wpP_skip rfl (by rfl) ?_; simp only [Act.put, List.setIfInBounds_toArray, List.set_cons_zero, List.set_cons_succ])
      first | (refine wpP_quiet (v := ?_) rfl (by rfl) ?_ ?_; rotate_left; (· (intro w' hw'; go_simp; try with_reducible rfl)); simp only [Act.put, List.setIfInBounds_toArray, List.set_cons_zero, List.set_cons_succ]) | (refine wpP_skip rfl (by rfl) ?_; simp only [Act.put, List.setIfInBounds_toArray, List.set_cons_zero, List.set_cons_succ])
      refine wpP_one ?_
      refine wpP_loud rfl (by rfl) ?_
      intro K hK
      go_simp
      refine (stRoot_any v s _ (hvd.to fb) HS.out HWF.out).mono ?_
      rintro e Vn ⟨rfl, hb⟩
      rw [HRS.out]
      unfold hv
      refine hK.out _ _ (hb.mono fb.size) ?_
      clear hK K
      try simp only [Act.put, List.setIfInBounds_toArray, List.set_cons_zero, List.set_cons_succ]
      replace fb := fb.trans (hb.mono fb.size)
      clear hb
      refine wpP_one ?_
      refine wpP_loud rfl (by rfl) ?_
      intro K hK
      go_simp
      refine (stRoot_any v2 s _ (htd.to fb) HST.out HWT.out).mono ?_
      rintro e Vn ⟨rfl, hb⟩
      rw [HRT.out]
      unfold hv
      refine hK.out _ _ (hb.mono fb.size) ?_
      clear hK K
      try simp only [Act.put, List.setIfInBounds_toArray, List.set_cons_zero, List.set_cons_succ]
      replace fb := fb.trans (hb.mono fb.size)
      clear hb
      have eqk := eq_hash rs rs HRSL.out HRTL.out
      first | (refine wpP_quiet (v := ?_) rfl (by rfl) ?_ ?_; rotate_left; (· (intro w' hw'; go_simp; try with_reducible rfl)); simp only [Act.put, List.setIfInBounds_toArray, List.set_cons_zero, List.set_cons_succ]) | (refine wpP_skip rfl (by rfl) ?_; simp only [Act.put, List.setIfInBounds_toArray, List.set_cons_zero, List.set_cons_succ])
      clear eqk
      refine wpP_one ?_
      refine wpP_loud rfl (by rfl) ?_
      intro K hK
      go_simp
      refine (stRefRoot_any v s _ (hvd.to fb) HS.out HWF.out).mono ?_
      rintro e Vn ⟨rfl, hb⟩
      rw [HRS.out]
      unfold hv
      refine hK.out _ _ (hb.mono fb.size) ?_
      clear hK K
      try simp only [Act.put, List.setIfInBounds_toArray, List.set_cons_zero, List.set_cons_succ]
      replace fb := fb.trans (hb.mono fb.size)
      clear hb
      refine wpP_one ?_
      refine wpP_loud rfl (by rfl) ?_
      intro K hK
      go_simp
      refine (stRefRoot_any v2 s _ (htd.to fb) HST.out HWT.out).mono ?_
      rintro e Vn ⟨rfl, hb⟩
      rw [HRT.out]
      unfold hv
      refine hK.out _ _ (hb.mono fb.size) ?_
      clear hK K
      try simp only [Act.put, List.setIfInBounds_toArray, List.set_cons_zero, List.set_cons_succ]
      replace fb := fb.trans (hb.mono fb.size)
      clear hb
      have eqk := eq_hash rs rs HRSL.out HRTL.out
      first | (refine wpP_quiet (v := ?_) rfl (by rfl) ?_ ?_; rotate_left; (· (intro w' hw'; go_simp; try with_reducible rfl)); simp only [Act.put, List.setIfInBounds_toArray, List.set_cons_zero, List.set_cons_succ]) | (refine wpP_skip rfl (by rfl) ?_; simp only [Act.put, List.setIfInBounds_toArray, List.set_cons_zero, List.set_cons_succ])
      clear eqk
      first | (refine wpP_quiet (v := ?_) rfl (by rfl) ?_ ?_; rotate_left; (· (intro w' hw'; go_simp; try with_reducible rfl)); simp only [Act.put, List.setIfInBounds_toArray, List.set_cons_zero, List.set_cons_succ]) | (refine wpP_skip rfl (by rfl) ?_; simp only [Act.put, List.setIfInBounds_toArray, List.set_cons_zero, List.set_cons_succ])
      first | (refine wpP_quiet (v := ?_) rfl (by rfl) ?_ ?_; rotate_left; (· (intro w' hw'; go_simp; try with_reducible rfl)); simp only [Act.put, List.setIfInBounds_toArray, List.set_cons_zero, List.set_cons_succ]) | (refine wpP_skip rfl (by rfl) ?_; simp only [Act.put, List.setIfInBounds_toArray, List.set_cons_zero, List.set_cons_succ])
      first | (refine wpP_quiet (v := ?_) rfl (by rfl) ?_ ?_; rotate_left; (· (intro w' hw'; go_simp; try with_reducible rfl)); simp only [Act.put, List.setIfInBounds_toArray, List.set_cons_zero, List.set_cons_succ]) | (refine wpP_skip rfl (by rfl) ?_; simp only [Act.put, List.setIfInBounds_toArray, List.set_cons_zero, List.set_cons_succ])
      first | (refine wpP_quiet (v := ?_) rfl (by rfl) ?_ ?_; rotate_left; (· (intro w' hw'; go_simp; try with_reducible rfl)); simp only [Act.put, List.setIfInBounds_toArray, List.set_cons_zero, List.set_cons_succ]) | (refine wpP_skip rfl (by rfl) ?_; simp only [Act.put, List.setIfInBounds_toArray, List.set_cons_zero, List.set_cons_succ])
      first | (refine wpP_quiet (v := ?_) rfl (by rfl) ?_ ?_; rotate_left; (· (intro w' hw'; go_simp; try with_reducible rfl)); simp only [Act.put, List.setIfInBounds_toArray, List.set_cons_zero, List.set_cons_succ]) | (refine wpP_skip rfl (by rfl) ?_; simp only [Act.put, List.setIfInBounds_toArray, List.set_cons_zero, List.set_cons_succ])
      refine wpP_one ?_
      refine wpP_loud rfl (by rfl) ?_
      intro K hK
      go_simp
      refine (stSame_any v v2 s s _ (hvd.to fb) (htd.to fb) HS.out).mono ?_
      rintro e Vn ⟨rfl, hb⟩
      rw [decide_eq_true rfl]
      refine hK.out _ _ (hb.mono fb.size) ?_
      clear hK K
      try simp only [Act.put, List.setIfInBounds_toArray, List.set_cons_zero, List.set_cons_succ]
      replace fb := fb.trans (hb.mono fb.size)
      clear hb
      first | (refine wpP_quiet (v := ?_) rfl (by rfl) ?_ ?_; rotate_left; (· (intro w' hw'; go_simp; try with_reducible rfl)); simp only [Act.put, List.setIfInBounds_toArray, List.set_cons_zero, List.set_cons_succ]) | (refine wpP_skip rfl (by rfl) ?_; simp only [Act.put, List.setIfInBounds_toArray, List.set_cons_zero, List.set_cons_succ])
      first | (refine wpP_quiet (v := ?_) rfl (by rfl) ?_ ?_; rotate_left; (· (intro w' hw'; go_simp; try with_reducible rfl)); simp only [Act.put, List.setIfInBounds_toArray, List.set_cons_zero, List.set_cons_succ]) | (refine wpP_skip rfl (by rfl) ?_; simp only [Act.put, List.setIfInBounds_toArray, List.set_cons_zero, List.set_cons_succ])
      first | (refine wpP_quiet (v := ?_) rfl (by rfl) ?_ ?_; rotate_left; (· (intro w' hw'; go_simp; try with_reducible rfl)); simp only [Act.put, List.setIfInBounds_toArray, List.set_cons_zero, List.set_cons_succ]) | (refine wpP_skip rfl (by rfl) ?_; simp only [Act.put, List.setIfInBounds_toArray, List.set_cons_zero, List.set_cons_succ])
      first | (refine wpP_quiet (v := ?_) rfl (by rfl) ?_ ?_; rotate_left; (· (intro w' hw'; go_simp; try with_reducible rfl)); simp only [Act.put, List.setIfInBounds_toArray, List.set_cons_zero, List.set_cons_succ]) | (refine wpP_skip rfl (by rfl) ?_; simp only [Act.put, List.setIfInBounds_toArray, List.set_cons_zero, List.set_cons_succ])
      refine wpP_one ?_
      refine wpP_loud rfl (by rfl) ?_
      intro K hK
      go_simp
      refine (stRoot_any v s _ (hvd.to fb) HS.out HWF.out).mono ?_
      rintro e Vn ⟨rfl, hb⟩
      rw [HRS.out]
      unfold hv
      refine hK.out _ _ (hb.mono fb.size) ?_
      clear hK K
      try simp only [Act.put, List.setIfInBounds_toArray, List.set_cons_zero, List.set_cons_succ]
      replace fb := fb.trans (hb.mono fb.size)
      clear hb
      refine wpP_one ?_
      refine wpP_loud rfl (by rfl) ?_
      intro K hK
      go_simp
      refine (stRoot_any v2 s _ (htd.to fb) HST.out HWT.out).mono ?_
      rintro e Vn ⟨rfl, hb⟩
      rw [HRT.out]
      unfold hv
      refine hK.out _ _ (hb.mono fb.size) ?_
      clear hK K
      try simp only [Act.put, List.setIfInBounds_toArray, List.set_cons_zero, List.set_cons_succ]
      replace fb := fb.trans (hb.mono fb.size)
      clear hb
      have eqk := eq_self rs HRSL.out
      first | (refine wpP_quiet (v := ?_) rfl (by rfl) ?_ ?_; rotate_left; (· (intro w' hw'; go_simp; try with_reducible rfl)); simp only [Act.put, List.setIfInBounds_toArray, List.set_cons_zero, List.set_cons_succ]) | (refine wpP_skip rfl (by rfl) ?_; simp only [Act.put, List.setIfInBounds_toArray, List.set_cons_zero, List.set_cons_succ])
      clear eqk
      first | (refine wpP_quiet (v := ?_) rfl (by rfl) ?_ ?_; rotate_left; (· (intro w' hw'; go_simp; try with_reducible rfl)); simp only [Act.put, List.setIfInBounds_toArray, List.set_cons_zero, List.set_cons_succ]) | (refine wpP_skip rfl (by rfl) ?_; simp only [Act.put, List.setIfInBounds_toArray, List.set_cons_zero, List.set_cons_succ])
      first | (refine wpP_quiet (v := ?_) rfl (by rfl) ?_ ?_; rotate_left; (· (intro w' hw'; go_simp; try with_reducible rfl)); simp only [Act.put, List.setIfInBounds_toArray, List.set_cons_zero, List.set_cons_succ]) | (refine wpP_skip rfl (by rfl) ?_; simp only [Act.put, List.setIfInBounds_toArray, List.set_cons_zero, List.set_cons_succ])
      first | (refine wpP_quiet (v := ?_) rfl (by rfl) ?_ ?_; rotate_left; (· (intro w' hw'; go_simp; try with_reducible rfl)); simp only [Act.put, List.setIfInBounds_toArray, List.set_cons_zero, List.set_cons_succ]) | (refine wpP_skip rfl (by rfl) ?_; simp only [Act.put, List.setIfInBounds_toArray, List.set_cons_zero, List.set_cons_succ])
      refine wpP_load rfl (by rfl) _ _ rfl (w6.heap.size) 0 rfl (accC (Acc.mk (256 + m9) 1 0 0)) _ (fun w' h => (bbd.below (fb.trans h) hN6).range) Try.underlying23 rfl info_acc ?_
      simp only [Act.put, List.setIfInBounds_toArray, List.set_cons_zero, List.set_cons_succ]
      first | (refine wpP_quiet (v := ?_) rfl (by rfl) ?_ ?_; rotate_left; (· (intro w' hw'; go_simp; try with_reducible rfl)); simp only [Act.put, List.setIfInBounds_toArray, List.set_cons_zero, List.set_cons_succ]) | (refine wpP_skip rfl (by rfl) ?_; simp only [Act.put, List.setIfInBounds_toArray, List.set_cons_zero, List.set_cons_succ])
      first | (refine wpP_quiet (v := ?_) rfl (by rfl) ?_ ?_; rotate_left; (· (intro w' hw'; go_simp; try with_reducible rfl)); simp only [Act.put, List.setIfInBounds_toArray, List.set_cons_zero, List.set_cons_succ]) | (refine wpP_skip rfl (by rfl) ?_; simp only [Act.put, List.setIfInBounds_toArray, List.set_cons_zero, List.set_cons_succ])
      refine wpP_build rfl (by rfl) _ _ rfl _ built_zero_ ?_
      simp only [Act.put, List.setIfInBounds_toArray, List.set_cons_zero, List.set_cons_succ]
      refine wpP_one ?_
      refine wpP_loud rfl (by rfl) ?_
      intro K hK
      go_simp
      refine (stProve_any v2 s o _ (htd.to fb) HST.out HWT.out).mono ?_
      rintro e Vn ⟨rfl, hb⟩
      refine hK.out _ _ (hb.mono fb.size) ?_
      clear hK K
      try simp only [Act.put, List.setIfInBounds_toArray, List.set_cons_zero, List.set_cons_succ]
      replace fb := fb.trans (hb.mono fb.size)
      clear hb
      refine wpP_one ?_
      refine wpP_loud rfl (by rfl) ?_
      intro K hK
      go_simp
      refine (up_any (Acc.mk (256 + m9) 1 0 0) HBW.out (proveS s o) (proveS_len _ _) (proveS_all _ _) _).mono ?_
      rintro e Vn ⟨rfl, hb⟩
      rw [HUB.out]
      unfold hv
      refine hK.out _ _ (hb.mono fb.size) ?_
      clear hK K
      try simp only [Act.put, List.setIfInBounds_toArray, List.set_cons_zero, List.set_cons_succ]
      replace fb := fb.trans (hb.mono fb.size)
      clear hb
      have eqk := eq_self zero32 rfl
      first | (refine wpP_quiet (v := ?_) rfl (by rfl) ?_ ?_; rotate_left; (· (intro w' hw'; go_simp; try with_reducible rfl)); simp only [Act.put, List.setIfInBounds_toArray, List.set_cons_zero, List.set_cons_succ]) | (refine wpP_skip rfl (by rfl) ?_; simp only [Act.put, List.setIfInBounds_toArray, List.set_cons_zero, List.set_cons_succ])
      clear eqk
      first | (refine wpP_quiet (v := ?_) rfl (by rfl) ?_ ?_; rotate_left; (· (intro w' hw'; go_simp; try with_reducible rfl)); simp only [Act.put, List.setIfInBounds_toArray, List.set_cons_zero, List.set_cons_succ]) | (refine wpP_skip rfl (by rfl) ?_; simp only [Act.put, List.setIfInBounds_toArray, List.set_cons_zero, List.set_cons_succ])
      first | (refine wpP_quiet (v := ?_) rfl (by rfl) ?_ ?_; rotate_left; (· (intro w' hw'; go_simp; try with_reducible rfl)); simp only [Act.put, List.setIfInBounds_toArray, List.set_cons_zero, List.set_cons_succ]) | (refine wpP_skip rfl (by rfl) ?_; simp only [Act.put, List.setIfInBounds_toArray, List.set_cons_zero, List.set_cons_succ])
      first | (refine wpP_quiet (v := ?_) rfl (by rfl) ?_ ?_; rotate_left; (· (intro w' hw'; go_simp; try with_reducible rfl)); simp only [Act.put, List.setIfInBounds_toArray, List.set_cons_zero, List.set_cons_succ]) | (refine wpP_skip rfl (by rfl) ?_; simp only [Act.put, List.setIfInBounds_toArray, List.set_cons_zero, List.set_cons_succ])
      first | (refine wpP_quiet (v := ?_) rfl (by rfl) ?_ ?_; rotate_left; (· (intro w' hw'; go_simp; try with_reducible rfl)); simp only [Act.put, List.setIfInBounds_toArray, List.set_cons_zero, List.set_cons_succ]) | (refine wpP_skip rfl (by rfl) ?_; simp only [Act.put, List.setIfInBounds_toArray, List.set_cons_zero, List.set_cons_succ])
      refine wpP_build rfl (by rfl) _ _ rfl _ built_path ?_
      simp only [Act.put, List.setIfInBounds_toArray, List.set_cons_zero, List.set_cons_succ]
      refine wpP_one ?_
      refine wpP_loud rfl (by rfl) ?_
      intro K hK
      go_simp
      refine (within_capstanlaw7 cc 9 _ (by omega) (by omega) c_lo c_hi).mono ?_
      rintro e Vn ⟨rfl, rfl⟩
      rw [hm9]
      have hb := Below.refl Vn.heap.size Vn
      refine hK.out _ _ (hb.mono fb.size) ?_
      clear hK K
      try simp only [Act.put, List.setIfInBounds_toArray, List.set_cons_zero, List.set_cons_succ]
      replace fb := fb.trans (hb.mono fb.size)
      clear hb
      first | (refine wpP_quiet (v := ?_) rfl (by rfl) ?_ ?_; rotate_left; (· (intro w' hw'; go_simp; try with_reducible rfl)); simp only [Act.put, List.setIfInBounds_toArray, List.set_cons_zero, List.set_cons_succ]) | (refine wpP_skip rfl (by rfl) ?_; simp only [Act.put, List.setIfInBounds_toArray, List.set_cons_zero, List.set_cons_succ])
      refine wpP_one ?_
      refine wpP_loud rfl (by rfl) ?_
      intro K hK
      go_simp
      refine (stProve_any v2 s (-1 - m9) _ (htd.to fb) HST.out HWT.out).mono ?_
      rintro e Vn ⟨rfl, hb⟩
      rw [HPN.out]
      unfold pv
      refine hK.out _ _ (hb.mono fb.size) ?_
      clear hK K
      try simp only [Act.put, List.setIfInBounds_toArray, List.set_cons_zero, List.set_cons_succ]
      replace fb := fb.trans (hb.mono fb.size)
      clear hb
      have eqk := eq_path0
      first | (refine wpP_quiet (v := ?_) rfl (by rfl) ?_ ?_; rotate_left; (· (intro w' hw'; go_simp; try with_reducible rfl)); simp only [Act.put, List.setIfInBounds_toArray, List.set_cons_zero, List.set_cons_succ]) | (refine wpP_skip rfl (by rfl) ?_; simp only [Act.put, List.setIfInBounds_toArray, List.set_cons_zero, List.set_cons_succ])
      clear eqk
      first | (refine wpP_quiet (v := ?_) rfl (by rfl) ?_ ?_; rotate_left; (· (intro w' hw'; go_simp; try with_reducible rfl)); simp only [Act.put, List.setIfInBounds_toArray, List.set_cons_zero, List.set_cons_succ]) | (refine wpP_skip rfl (by rfl) ?_; simp only [Act.put, List.setIfInBounds_toArray, List.set_cons_zero, List.set_cons_succ])
      first | (refine wpP_quiet (v := ?_) rfl (by rfl) ?_ ?_; rotate_left; (· (intro w' hw'; go_simp; try with_reducible rfl)); simp only [Act.put, List.setIfInBounds_toArray, List.set_cons_zero, List.set_cons_succ]) | (refine wpP_skip rfl (by rfl) ?_; simp only [Act.put, List.setIfInBounds_toArray, List.set_cons_zero, List.set_cons_succ])
      refine wpP_done ?_
      go_wp2_with fail
      go_ret
      exact ⟨rfl, fd.trans (fb.mono fd.size)⟩
    · refine wp_region_P (.take 0 (.take 1 (.take 2 (.take 5 (.one 3 (.one 4 (.one 6 (.take 7 (.take 8 (.take 9 (.take 11 (.take 14 (.take 16 (.one 10 (.one 12 (.take 13 (.one 15 (.one 17 (.take 18 (.take 19 (.take 20 (.take 21 (.take 22 (.take 23 (.one 24 (.take 25 (.take 26 (.take 27 (.take 29 (.one 28 (.one 30 (.take 31 (.take 32 (.take 33 (.take 34 (.take 35 (.take 36 (.take 37 (.take 40 (.one 38 (.one 39 (.take 41 (.take 42 (.take 43 (.take 44 (.take 45 (.take 49 (.one 46 (.take 47 (.one 48 (.take 50 (.take 51 (.take 52 .done))))))))))))))))))))))))))))))))))))))))))))))))))))) (Below w7.drew.heap.size) (by kernel_rfl) (by kernel_rfl) (by kernel_rfl) (by decide +kernel) (Below.refl _) (fun _ _ _ => Below.trans) (by intro d v c a w h; first | (cases d <;> exact h) | exact absurd h.1 (by simp)) ?_
      have bxd : Blk w7.drew w5.heap.size 23 (accC x) := bx7
      have bbd : Blk w7.drew w6.heap.size 23 (accC (Acc.mk (256 + m9) 1 0 0)) := bb7
      have hvd : StV w7.drew v s := hv7.drew
      have htd : StV w7.drew v2 t := ht7.drew
      have fd : Below w.heap.size w w7.drew := f7.drew
      clear bx7 bb7 hv7 ht7 f7
      generalize w7.drew = V0 at *
      have fb : Below V0.heap.size V0 V0 := Below.refl _ _
      have hN5 := bxd.lt
      have hN6 := bbd.lt
      refine wpP_load rfl (by rfl) _ _ rfl (w5.heap.size) 0 rfl (accC x) _ (fun w' h => (bxd.below (fb.trans h) hN5).range) Try.underlying23 rfl info_acc ?_
      simp only [Act.put, List.setIfInBounds_toArray, List.set_cons_zero, List.set_cons_succ]
      first | (refine wpP_quiet (v := ?_) rfl (by rfl) ?_ ?_; rotate_left; (· (intro w' hw'; go_simp; try with_reducible rfl)); simp only [Act.put, List.setIfInBounds_toArray, List.set_cons_zero, List.set_cons_succ]) | (refine wpP_skip rfl (by rfl) ?_; simp only [Act.put, List.setIfInBounds_toArray, List.set_cons_zero, List.set_cons_succ])
      first | (refine wpP_quiet (v := ?_) rfl (by rfl) ?_ ?_; rotate_left; (· (intro w' hw'; go_simp; try with_reducible rfl)); simp only [Act.put, List.setIfInBounds_toArray, List.set_cons_zero, List.set_cons_succ]) | (refine wpP_skip rfl (by rfl) ?_; simp only [Act.put, List.setIfInBounds_toArray, List.set_cons_zero, List.set_cons_succ])
      first | (refine wpP_quiet (v := ?_) rfl (by rfl) ?_ ?_; rotate_left; (· (intro w' hw'; go_simp; try with_reducible rfl)); simp only [Act.put, List.setIfInBounds_toArray, List.set_cons_zero, List.set_cons_succ]) | (refine wpP_skip rfl (by rfl) ?_; simp only [Act.put, List.setIfInBounds_toArray, List.set_cons_zero, List.set_cons_succ])
      refine wpP_one ?_
      refine wpP_loud rfl (by rfl) ?_
      intro K hK
      go_simp
      refine (stProve_any v2 t o _ (htd.to fb) HST.out HWT.out).mono ?_
      rintro e Vn ⟨rfl, hb⟩
      refine hK.out _ _ (hb.mono fb.size) ?_
      clear hK K
      try simp only [Act.put, List.setIfInBounds_toArray, List.set_cons_zero, List.set_cons_succ]
      replace fb := fb.trans (hb.mono fb.size)
      clear hb
      refine wpP_one ?_
      refine wpP_loud rfl (by rfl) ?_
      intro K hK
      go_simp
      refine (up_any x HXW.out (proveS t o) (proveS_len _ _) (proveS_all _ _) _).mono ?_
      rintro e Vn ⟨rfl, hb⟩
      rw [HUX.out]
      unfold hv
      refine hK.out _ _ (hb.mono fb.size) ?_
      clear hK K
      try simp only [Act.put, List.setIfInBounds_toArray, List.set_cons_zero, List.set_cons_succ]
      replace fb := fb.trans (hb.mono fb.size)
      clear hb
      refine wpP_one ?_
      refine wpP_loud rfl (by rfl) ?_
      intro K hK
      go_simp
      refine (stRoot_any v2 t _ (htd.to fb) HST.out HWT.out).mono ?_
      rintro e Vn ⟨rfl, hb⟩
      rw [HRT.out]
      unfold hv
      refine hK.out _ _ (hb.mono fb.size) ?_
      clear hK K
      try simp only [Act.put, List.setIfInBounds_toArray, List.set_cons_zero, List.set_cons_succ]
      replace fb := fb.trans (hb.mono fb.size)
      clear hb
      have eqk := eq_self rt HRTL.out
      first | (refine wpP_quiet (v := ?_) rfl (by rfl) ?_ ?_; rotate_left; (· (intro w' hw'; go_simp; try with_reducible rfl)); simp only [Act.put, List.setIfInBounds_toArray, List.set_cons_zero, List.set_cons_succ]) | (refine wpP_skip rfl (by rfl) ?_; simp only [Act.put, List.setIfInBounds_toArray, List.set_cons_zero, List.set_cons_succ])
      clear eqk
      first | (refine wpP_quiet (v := ?_) rfl (by rfl) ?_ ?_; rotate_left; (· (intro w' hw'; go_simp; try with_reducible rfl)); simp only [Act.put, List.setIfInBounds_toArray, List.set_cons_zero, List.set_cons_succ]) | (refine wpP_skip rfl (by rfl) ?_; simp only [Act.put, List.setIfInBounds_toArray, List.set_cons_zero, List.set_cons_succ])
      first | (refine wpP_quiet (v := ?_) rfl (by rfl) ?_ ?_; rotate_left; (· (intro w' hw'; go_simp; try with_reducible rfl)); simp only [Act.put, List.setIfInBounds_toArray, List.set_cons_zero, List.set_cons_succ]) | (refine wpP_skip rfl (by rfl) ?_; simp only [Act.put, List.setIfInBounds_toArray, List.set_cons_zero, List.set_cons_succ])
      first | (refine wpP_quiet (v := ?_) rfl (by rfl) ?_ ?_; rotate_left; (· (intro w' hw'; go_simp; try with_reducible rfl)); simp only [Act.put, List.setIfInBounds_toArray, List.set_cons_zero, List.set_cons_succ]) | (refine wpP_skip rfl (by rfl) ?_; simp only [Act.put, List.setIfInBounds_toArray, List.set_cons_zero, List.set_cons_succ])
      first | (refine wpP_quiet (v := ?_) rfl (by rfl) ?_ ?_; rotate_left; (· (intro w' hw'; go_simp; try with_reducible rfl)); simp only [Act.put, List.setIfInBounds_toArray, List.set_cons_zero, List.set_cons_succ]) | (refine wpP_skip rfl (by rfl) ?_; simp only [Act.put, List.setIfInBounds_toArray, List.set_cons_zero, List.set_cons_succ])
      first | (refine wpP_quiet (v := ?_) rfl (by rfl) ?_ ?_; rotate_left; (· (intro w' hw'; go_simp; try with_reducible rfl)); simp only [Act.put, List.setIfInBounds_toArray, List.set_cons_zero, List.set_cons_succ]) | (refine wpP_skip rfl (by rfl) ?_; simp only [Act.put, List.setIfInBounds_toArray, List.set_cons_zero, List.set_cons_succ])
      refine wpP_one ?_
      refine wpP_loud rfl (by rfl) ?_
      intro K hK
      go_simp
      refine (stRoot_any v s _ (hvd.to fb) HS.out HWF.out).mono ?_
      rintro e Vn ⟨rfl, hb⟩
      rw [HRS.out]
      unfold hv
      refine hK.out _ _ (hb.mono fb.size) ?_
      clear hK K
      try simp only [Act.put, List.setIfInBounds_toArray, List.set_cons_zero, List.set_cons_succ]
      replace fb := fb.trans (hb.mono fb.size)
      clear hb
      refine wpP_one ?_
      refine wpP_loud rfl (by rfl) ?_
      intro K hK
      go_simp
      refine (stRoot_any v2 t _ (htd.to fb) HST.out HWT.out).mono ?_
      rintro e Vn ⟨rfl, hb⟩
      rw [HRT.out]
      unfold hv
      refine hK.out _ _ (hb.mono fb.size) ?_
      clear hK K
      try simp only [Act.put, List.setIfInBounds_toArray, List.set_cons_zero, List.set_cons_succ]
      replace fb := fb.trans (hb.mono fb.size)
      clear hb
      have eqk := eq_hash rs rt HRSL.out HRTL.out
      first | (refine wpP_quiet (v := ?_) rfl (by rfl) ?_ ?_; rotate_left; (· (intro w' hw'; go_simp; try with_reducible rfl)); simp only [Act.put, List.setIfInBounds_toArray, List.set_cons_zero, List.set_cons_succ]) | (refine wpP_skip rfl (by rfl) ?_; simp only [Act.put, List.setIfInBounds_toArray, List.set_cons_zero, List.set_cons_succ])
      clear eqk
      refine wpP_one ?_
      refine wpP_loud rfl (by rfl) ?_
      intro K hK
      go_simp
      refine (stRefRoot_any v s _ (hvd.to fb) HS.out HWF.out).mono ?_
      rintro e Vn ⟨rfl, hb⟩
      rw [HRS.out]
      unfold hv
      refine hK.out _ _ (hb.mono fb.size) ?_
      clear hK K
      try simp only [Act.put, List.setIfInBounds_toArray, List.set_cons_zero, List.set_cons_succ]
      replace fb := fb.trans (hb.mono fb.size)
      clear hb
      refine wpP_one ?_
      refine wpP_loud rfl (by rfl) ?_
      intro K hK
      go_simp
      refine (stRefRoot_any v2 t _ (htd.to fb) HST.out HWT.out).mono ?_
      rintro e Vn ⟨rfl, hb⟩
      rw [HRT.out]
      unfold hv
      refine hK.out _ _ (hb.mono fb.size) ?_
      clear hK K
      try simp only [Act.put, List.setIfInBounds_toArray, List.set_cons_zero, List.set_cons_succ]
      replace fb := fb.trans (hb.mono fb.size)
      clear hb
      have eqk := eq_hash rs rt HRSL.out HRTL.out
      first | (refine wpP_quiet (v := ?_) rfl (by rfl) ?_ ?_; rotate_left; (· (intro w' hw'; go_simp; try with_reducible rfl)); simp only [Act.put, List.setIfInBounds_toArray, List.set_cons_zero, List.set_cons_succ]) | (refine wpP_skip rfl (by rfl) ?_; simp only [Act.put, List.setIfInBounds_toArray, List.set_cons_zero, List.set_cons_succ])
      clear eqk
      first | (refine wpP_quiet (v := ?_) rfl (by rfl) ?_ ?_; rotate_left; (· (intro w' hw'; go_simp; try with_reducible rfl)); simp only [Act.put, List.setIfInBounds_toArray, List.set_cons_zero, List.set_cons_succ]) | (refine wpP_skip rfl (by rfl) ?_; simp only [Act.put, List.setIfInBounds_toArray, List.set_cons_zero, List.set_cons_succ])
      first | (refine wpP_quiet (v := ?_) rfl (by rfl) ?_ ?_; rotate_left; (· (intro w' hw'; go_simp; try with_reducible rfl)); simp only [Act.put, List.setIfInBounds_toArray, List.set_cons_zero, List.set_cons_succ]) | (refine wpP_skip rfl (by rfl) ?_; simp only [Act.put, List.setIfInBounds_toArray, List.set_cons_zero, List.set_cons_succ])
      first | (refine wpP_quiet (v := ?_) rfl (by rfl) ?_ ?_; rotate_left; (· (intro w' hw'; go_simp; try with_reducible rfl)); simp only [Act.put, List.setIfInBounds_toArray, List.set_cons_zero, List.set_cons_succ]) | (refine wpP_skip rfl (by rfl) ?_; simp only [Act.put, List.setIfInBounds_toArray, List.set_cons_zero, List.set_cons_succ])
      first | (refine wpP_quiet (v := ?_) rfl (by rfl) ?_ ?_; rotate_left; (· (intro w' hw'; go_simp; try with_reducible rfl)); simp only [Act.put, List.setIfInBounds_toArray, List.set_cons_zero, List.set_cons_succ]) | (refine wpP_skip rfl (by rfl) ?_; simp only [Act.put, List.setIfInBounds_toArray, List.set_cons_zero, List.set_cons_succ])
      first | (refine wpP_quiet (v := ?_) rfl (by rfl) ?_ ?_; rotate_left; (· (intro w' hw'; go_simp; try with_reducible rfl)); simp only [Act.put, List.setIfInBounds_toArray, List.set_cons_zero, List.set_cons_succ]) | (refine wpP_skip rfl (by rfl) ?_; simp only [Act.put, List.setIfInBounds_toArray, List.set_cons_zero, List.set_cons_succ])
      refine wpP_one ?_
      refine wpP_loud rfl (by rfl) ?_
      intro K hK
      go_simp
      refine (stSame_any v v2 s t _ (hvd.to fb) (htd.to fb) HS.out).mono ?_
      rintro e Vn ⟨rfl, hb⟩
      rw [decide_eq_false hst]
      refine hK.out _ _ (hb.mono fb.size) ?_
      clear hK K
      try simp only [Act.put, List.setIfInBounds_toArray, List.set_cons_zero, List.set_cons_succ]
      replace fb := fb.trans (hb.mono fb.size)
      clear hb
      first | (refine wpP_quiet (v := ?_) rfl (by rfl) ?_ ?_; rotate_left; (· (intro w' hw'; go_simp; try with_reducible rfl)); simp only [Act.put, List.setIfInBounds_toArray, List.set_cons_zero, List.set_cons_succ]) | (refine wpP_skip rfl (by rfl) ?_; simp only [Act.put, List.setIfInBounds_toArray, List.set_cons_zero, List.set_cons_succ])
      first | (refine wpP_quiet (v := ?_) rfl (by rfl) ?_ ?_; rotate_left; (· (intro w' hw'; go_simp; try with_reducible rfl)); simp only [Act.put, List.setIfInBounds_toArray, List.set_cons_zero, List.set_cons_succ]) | (refine wpP_skip rfl (by rfl) ?_; simp only [Act.put, List.setIfInBounds_toArray, List.set_cons_zero, List.set_cons_succ])
      first | (refine wpP_quiet (v := ?_) rfl (by rfl) ?_ ?_; rotate_left; (· (intro w' hw'; go_simp; try with_reducible rfl)); simp only [Act.put, List.setIfInBounds_toArray, List.set_cons_zero, List.set_cons_succ]) | (refine wpP_skip rfl (by rfl) ?_; simp only [Act.put, List.setIfInBounds_toArray, List.set_cons_zero, List.set_cons_succ])
      first | (refine wpP_quiet (v := ?_) rfl (by rfl) ?_ ?_; rotate_left; (· (intro w' hw'; go_simp; try with_reducible rfl)); simp only [Act.put, List.setIfInBounds_toArray, List.set_cons_zero, List.set_cons_succ]) | (refine wpP_skip rfl (by rfl) ?_; simp only [Act.put, List.setIfInBounds_toArray, List.set_cons_zero, List.set_cons_succ])
      first | (refine wpP_val (v := ?_) (Below.refl _) rfl (by rfl) ?_ ?_; rotate_left; (· (go_simp; try with_reducible rfl)); simp only [Act.put, List.setIfInBounds_toArray, List.set_cons_zero, List.set_cons_succ]) | (refine wpP_skip' (Below.refl _) rfl (by rfl) ?_; simp only [Act.put, List.setIfInBounds_toArray, List.set_cons_zero, List.set_cons_succ])
      first | (refine wpP_val (v := ?_) (Below.refl _) rfl (by rfl) ?_ ?_; rotate_left; (· (go_simp; try with_reducible rfl)); simp only [Act.put, List.setIfInBounds_toArray, List.set_cons_zero, List.set_cons_succ]) | (refine wpP_skip' (Below.refl _) rfl (by rfl) ?_; simp only [Act.put, List.setIfInBounds_toArray, List.set_cons_zero, List.set_cons_succ])
      first | (refine wpP_quiet (v := ?_) rfl (by rfl) ?_ ?_; rotate_left; (· (intro w' hw'; go_simp; try with_reducible rfl)); simp only [Act.put, List.setIfInBounds_toArray, List.set_cons_zero, List.set_cons_succ]) | (refine wpP_skip rfl (by rfl) ?_; simp only [Act.put, List.setIfInBounds_toArray, List.set_cons_zero, List.set_cons_succ])
      first | (refine wpP_quiet (v := ?_) rfl (by rfl) ?_ ?_; rotate_left; (· (intro w' hw'; go_simp; try with_reducible rfl)); simp only [Act.put, List.setIfInBounds_toArray, List.set_cons_zero, List.set_cons_succ]) | (refine wpP_skip rfl (by rfl) ?_; simp only [Act.put, List.setIfInBounds_toArray, List.set_cons_zero, List.set_cons_succ])
      first | (refine wpP_quiet (v := ?_) rfl (by rfl) ?_ ?_; rotate_left; (· (intro w' hw'; go_simp; try with_reducible rfl)); simp only [Act.put, List.setIfInBounds_toArray, List.set_cons_zero, List.set_cons_succ]) | (refine wpP_skip rfl (by rfl) ?_; simp only [Act.put, List.setIfInBounds_toArray, List.set_cons_zero, List.set_cons_succ])
      first | (refine wpP_quiet (v := ?_) rfl (by rfl) ?_ ?_; rotate_left; (· (intro w' hw'; go_simp; try with_reducible rfl)); simp only [Act.put, List.setIfInBounds_toArray, List.set_cons_zero, List.set_cons_succ]) | (refine wpP_skip rfl (by rfl) ?_; simp only [Act.put, List.setIfInBounds_toArray, List.set_cons_zero, List.set_cons_succ])
      refine wpP_load rfl (by rfl) _ _ rfl (w6.heap.size) 0 rfl (accC (Acc.mk (256 + m9) 1 0 0)) _ (fun w' h => (bbd.below (fb.trans h) hN6).range) Try.underlying23 rfl info_acc ?_
      simp only [Act.put, List.setIfInBounds_toArray, List.set_cons_zero, List.set_cons_succ]
      first | (refine wpP_quiet (v := ?_) rfl (by rfl) ?_ ?_; rotate_left; (· (intro w' hw'; go_simp; try with_reducible rfl)); simp only [Act.put, List.setIfInBounds_toArray, List.set_cons_zero, List.set_cons_succ]) | (refine wpP_skip rfl (by rfl) ?_; simp only [Act.put, List.setIfInBounds_toArray, List.set_cons_zero, List.set_cons_succ])
      first | (refine wpP_quiet (v := ?_) rfl (by rfl) ?_ ?_; rotate_left; (· (intro w' hw'; go_simp; try with_reducible rfl)); simp only [Act.put, List.setIfInBounds_toArray, List.set_cons_zero, List.set_cons_succ]) | (refine wpP_skip rfl (by rfl) ?_; simp only [Act.put, List.setIfInBounds_toArray, List.set_cons_zero, List.set_cons_succ])
      refine wpP_build rfl (by rfl) _ _ rfl _ built_zero_ ?_
      simp only [Act.put, List.setIfInBounds_toArray, List.set_cons_zero, List.set_cons_succ]
      refine wpP_one ?_
      refine wpP_loud rfl (by rfl) ?_
      intro K hK
      go_simp
      refine (stProve_any v2 t o _ (htd.to fb) HST.out HWT.out).mono ?_
      rintro e Vn ⟨rfl, hb⟩
      refine hK.out _ _ (hb.mono fb.size) ?_
      clear hK K
      try simp only [Act.put, List.setIfInBounds_toArray, List.set_cons_zero, List.set_cons_succ]
      replace fb := fb.trans (hb.mono fb.size)
      clear hb
      refine wpP_one ?_
      refine wpP_loud rfl (by rfl) ?_
      intro K hK
      go_simp
      refine (up_any (Acc.mk (256 + m9) 1 0 0) HBW.out (proveS t o) (proveS_len _ _) (proveS_all _ _) _).mono ?_
      rintro e Vn ⟨rfl, hb⟩
      rw [HUB.out]
      unfold hv
      refine hK.out _ _ (hb.mono fb.size) ?_
      clear hK K
      try simp only [Act.put, List.setIfInBounds_toArray, List.set_cons_zero, List.set_cons_succ]
      replace fb := fb.trans (hb.mono fb.size)
      clear hb
      have eqk := eq_self zero32 rfl
      first | (refine wpP_quiet (v := ?_) rfl (by rfl) ?_ ?_; rotate_left; (· (intro w' hw'; go_simp; try with_reducible rfl)); simp only [Act.put, List.setIfInBounds_toArray, List.set_cons_zero, List.set_cons_succ]) | (refine wpP_skip rfl (by rfl) ?_; simp only [Act.put, List.setIfInBounds_toArray, List.set_cons_zero, List.set_cons_succ])
      clear eqk
      first | (refine wpP_quiet (v := ?_) rfl (by rfl) ?_ ?_; rotate_left; (· (intro w' hw'; go_simp; try with_reducible rfl)); simp only [Act.put, List.setIfInBounds_toArray, List.set_cons_zero, List.set_cons_succ]) | (refine wpP_skip rfl (by rfl) ?_; simp only [Act.put, List.setIfInBounds_toArray, List.set_cons_zero, List.set_cons_succ])
      first | (refine wpP_quiet (v := ?_) rfl (by rfl) ?_ ?_; rotate_left; (· (intro w' hw'; go_simp; try with_reducible rfl)); simp only [Act.put, List.setIfInBounds_toArray, List.set_cons_zero, List.set_cons_succ]) | (refine wpP_skip rfl (by rfl) ?_; simp only [Act.put, List.setIfInBounds_toArray, List.set_cons_zero, List.set_cons_succ])
      first | (refine wpP_quiet (v := ?_) rfl (by rfl) ?_ ?_; rotate_left; (· (intro w' hw'; go_simp; try with_reducible rfl)); simp only [Act.put, List.setIfInBounds_toArray, List.set_cons_zero, List.set_cons_succ]) | (refine wpP_skip rfl (by rfl) ?_; simp only [Act.put, List.setIfInBounds_toArray, List.set_cons_zero, List.set_cons_succ])
      first | (refine wpP_quiet (v := ?_) rfl (by rfl) ?_ ?_; rotate_left; (· (intro w' hw'; go_simp; try with_reducible rfl)); simp only [Act.put, List.setIfInBounds_toArray, List.set_cons_zero, List.set_cons_succ]) | (refine wpP_skip rfl (by rfl) ?_; simp only [Act.put, List.setIfInBounds_toArray, List.set_cons_zero, List.set_cons_succ])
      refine wpP_build rfl (by rfl) _ _ rfl _ built_path ?_
      simp only [Act.put, List.setIfInBounds_toArray, List.set_cons_zero, List.set_cons_succ]
      refine wpP_one ?_
      refine wpP_loud rfl (by rfl) ?_
      intro K hK
      go_simp
      refine (within_capstanlaw7 cc 9 _ (by omega) (by omega) c_lo c_hi).mono ?_
      rintro e Vn ⟨rfl, rfl⟩
      rw [hm9]
      have hb := Below.refl Vn.heap.size Vn
      refine hK.out _ _ (hb.mono fb.size) ?_
      clear hK K
      try simp only [Act.put, List.setIfInBounds_toArray, List.set_cons_zero, List.set_cons_succ]
      replace fb := fb.trans (hb.mono fb.size)
      clear hb
      first | (refine wpP_quiet (v := ?_) rfl (by rfl) ?_ ?_; rotate_left; (· (intro w' hw'; go_simp; try with_reducible rfl)); simp only [Act.put, List.setIfInBounds_toArray, List.set_cons_zero, List.set_cons_succ]) | (refine wpP_skip rfl (by rfl) ?_; simp only [Act.put, List.setIfInBounds_toArray, List.set_cons_zero, List.set_cons_succ])
      refine wpP_one ?_
      refine wpP_loud rfl (by rfl) ?_
      intro K hK
      go_simp
      refine (stProve_any v2 t (-1 - m9) _ (htd.to fb) HST.out HWT.out).mono ?_
      rintro e Vn ⟨rfl, hb⟩
      rw [HPN.out]
      unfold pv
      refine hK.out _ _ (hb.mono fb.size) ?_
      clear hK K
      try simp only [Act.put, List.setIfInBounds_toArray, List.set_cons_zero, List.set_cons_succ]
      replace fb := fb.trans (hb.mono fb.size)
      clear hb
      have eqk := eq_path0
      first | (refine wpP_quiet (v := ?_) rfl (by rfl) ?_ ?_; rotate_left; (· (intro w' hw'; go_simp; try with_reducible rfl)); simp only [Act.put, List.setIfInBounds_toArray, List.set_cons_zero, List.set_cons_succ]) | (refine wpP_skip rfl (by rfl) ?_; simp only [Act.put, List.setIfInBounds_toArray, List.set_cons_zero, List.set_cons_succ])
      clear eqk
      first | (refine wpP_quiet (v := ?_) rfl (by rfl) ?_ ?_; rotate_left; (· (intro w' hw'; go_simp; try with_reducible rfl)); simp only [Act.put, List.setIfInBounds_toArray, List.set_cons_zero, List.set_cons_succ]) | (refine wpP_skip rfl (by rfl) ?_; simp only [Act.put, List.setIfInBounds_toArray, List.set_cons_zero, List.set_cons_succ])
      first | (refine wpP_quiet (v := ?_) rfl (by rfl) ?_ ?_; rotate_left; (· (intro w' hw'; go_simp; try with_reducible rfl)); simp only [Act.put, List.setIfInBounds_toArray, List.set_cons_zero, List.set_cons_succ]) | (refine wpP_skip rfl (by rfl) ?_; simp only [Act.put, List.setIfInBounds_toArray, List.set_cons_zero, List.set_cons_succ])
      refine wpP_done ?_
      go_wp2_with fail
      go_ret
      exact ⟨rfl, fd.trans (fb.mono fd.size)⟩
end Go.Proofs.Ytakebmpnbdlcoaa
