/- The texts of this claim, part I: words, plain laws, walks. -/
import Derived.Test.YtakebmpnbdlcoaaPartH
/- The walk of capstanlaw7.TreeProves. -/
set_option linter.unusedSimpArgs false
set_option linter.unusedVariables false

namespace Go.Proofs.Ytakebmpnbdlcoaa
open Go.RowKit
set_option maxRecDepth 100000
set_option maxRecDepth 100000 in
set_option maxHeartbeats 1000000 in
theorem treeProves_walk (w : World) (A : Option Addr) (n c : Nat) (z : List Int) (hnc : n ≤ c) (hcm : c ≤ maxLen) (zb : ∀ x ∈ z, -9223372036854775808 ≤ x ∧ x < 9223372036854775808) (sl : Sl w 1 A n (z.map (Value.int .i64)))
    (a : Int) (a_lo : -9223372036854775808 ≤ a) (a_hi : a < 9223372036854775808) (b : Int) (b_lo : -9223372036854775808 ≤ b) (b_hi : b < 9223372036854775808) :
    Calls Try.prog 7 #[.slice A n c, .int .i64 a, .int .i64 b] w (RB true w) := by
  have hm : maxLen = 9223372036854775807 := rfl
  go_enter Try.func7, Try.ntmps7
  go_wp2_with fail
  refine (treeKnown_any w).mono ?_
  rintro e w1 ⟨rfl, h1⟩
  go_wp2_with fail
  refine (of_any A n c z w1 (sl.to h1) zb (by omega)).mono ?_
  rintro e w2 ⟨v, s, rfl, hv2, hs, hsm, h2⟩
  have f2 := h1.trans (h2.mono h1.size)
  have HS := Lib.hid hs
  have HSM := Lib.hid hsm
  have HWF := Lib.hid (st_wf hs hsm)
  clear hs hsm sl zb h1 h2
  go_wp2_with fail
  refine (within_capstanlaw7 a 256 w2 (by omega) (by omega) a_lo a_hi).mono ?_
  rintro e w2' ⟨rfl, rfl⟩
  obtain ⟨i, hi⟩ : ∃ i, a % 256 = i := ⟨_, rfl⟩
  have hi1 : 0 ≤ i ∧ i < 256 := by omega
  rw [hi]
  have HI := Lib.hid hi1
  clear hi hi1 a_lo a_hi
  go_wp2_with fail
  refine (stGet_any v s i w2 hv2 HS.out).mono ?_
  rintro e w3 ⟨rfl, h3⟩
  have hv3 := hv2.to h3
  have f3 := f2.trans (h3.mono f2.size)
  have hxs := get_small HSM.out i
  have hxi := get_id s i
  obtain ⟨x, hx⟩ : ∃ x, getS s i = x := ⟨_, rfl⟩
  rw [hx] at hxs hxi ⊢
  have HX := Lib.hid hx
  have HXS := Lib.hid hxs
  have HXI := Lib.hid hxi
  clear hx hxs hxi hv2 f2 h3
  unfold accV accC
  have HXW : Hid x.wf := (show x.wf from wf_of_small (by rw [HXI.out]; exact HI.out) HXS.out)
  go_wp2_with fail
  have h4 : Below w3.heap.size w3 (w3.alloc (.cells #[.int .i64 x.id, .int .i64 x.bal, .int .i64 x.non, .int .i64 x.dat] 23)) := (Below.refl _ _).alloc (Nat.le_refl _) _
  have bx4 : Blk (w3.alloc (.cells #[.int .i64 x.id, .int .i64 x.bal, .int .i64 x.non, .int .i64 x.dat] 23)) w3.heap.size 23 (accC x) := Blk.new w3 #[.int .i64 x.id, .int .i64 x.bal, .int .i64 x.non, .int .i64 x.dat] 23
  have hv4 := hv3.to h4
  have f4 := f3.trans (h4.mono f3.size)
  have hf3 := f3.size
  clear hv3 h4
  generalize w3.alloc (.cells #[.int .i64 x.id, .int .i64 x.bal, .int .i64 x.non, .int .i64 x.dat] 23) = w4 at *
  refine (stProve_any v s i w4 hv4 HS.out HWF.out).mono ?_
  rintro e w5 ⟨rfl, h5⟩
  have hpl := proveS_len s i
  have hpa := proveS_all s i
  have hug := up_get HS.out HI.out
  rw [HX.out] at hug
  obtain ⟨pp, hpp⟩ : ∃ p, proveS s i = p := ⟨_, rfl⟩
  rw [hpp] at hpl hpa hug ⊢
  have HPP := Lib.hid hpp
  have HPL := Lib.hid hpl
  have HPA := Lib.hid hpa
  have HPN : Hid ((H8 pp).length = 256) := (show _ = _ by rw [H8_len _ hpa, hpl])
  have IPP := Lib.hid (info_path hpl hpa)
  have hrl := root_len s
  obtain ⟨r, hr⟩ : ∃ r, rootJ 8 (leavesL s) = r := ⟨_, rfl⟩
  rw [hr] at hug hrl
  have HR := Lib.hid hr
  have HUG := Lib.hid hug
  have HRL := Lib.hid hrl
  have hv5 := hv4.to h5
  have bx5 := bx4.to h5
  have f5 := f4.trans (h5.mono f4.size)
  clear hpp hpl hpa hug hr hrl hv4 bx4 f4 h5
  unfold pv
  go_wp2_with (first
    | (refine wpl_store_new rfl _ _ _ rfl 41 _ (H8 pp) rfl rfl (by rw [HPN.out]; kernel_rfl) IPP.out (H8_one _) ?_
       intro w6 bp6 h6
       simp only [Act.put, List.setIfInBounds_toArray, List.set_cons_zero, List.set_cons_succ]
       have hv6 := hv5.to h6
       have bx6 := bx5.to h6
       have f6 := f5.trans (h6.mono f5.size)
       obtain ⟨-, k0, k1, k2, k3⟩ := acc_cells bx6)
    | (refine wpl_load_fld (by rfl) _ _ rfl w5.heap.size 0 rfl (H8 pp) _ bp6.range Try.underlying41 rfl IPP.out ?_))
  refine (up_any x HXW.out pp HPL.out HPA.out w6).mono ?_
  rintro e w7 ⟨rfl, h7⟩
  rw [HUG.out]
  have hv7 := hv6.to h7
  have bx7 := bx6.to h7
  have bp7 := bp6.to h7
  have f7 := f6.trans (h7.mono f6.size)
  have hf5 := f5.size
  have hx5 := bx5.lt
  clear hv5 bx5 f5 h6 hv6 bx6 bp6 f6 h7 k0 k1 k2 k3
  go_wp2_with fail
  refine (stRoot_any v s w7 hv7 HS.out HWF.out).mono ?_
  rintro e w8 ⟨rfl, h8⟩
  rw [HR.out]
  have hv8 := hv7.to h8
  have bx8 := bx7.to h8
  have bp8 := bp7.to h8
  have f8 := f7.trans (h8.mono f7.size)
  have eqr := eq_self r HRL.out
  unfold hv
  obtain ⟨-, k0, k1, k2, k3⟩ := acc_cells bx8
  clear hv7 bx7 bp7 f7 h8
  go_wp2_with fail
  have h9 : Below w8.heap.size w8 (w8.alloc (.cells #[.int .i64 x.id, .int .i64 x.bal, .int .i64 x.non, .int .i64 x.dat] 23)) := (Below.refl _ _).alloc (Nat.le_refl _) _
  have by9 : Blk (w8.alloc (.cells #[.int .i64 x.id, .int .i64 x.bal, .int .i64 x.non, .int .i64 x.dat] 23)) w8.heap.size 23 (accC x) := Blk.new w8 #[.int .i64 x.id, .int .i64 x.bal, .int .i64 x.non, .int .i64 x.dat] 23
  have hf8 := f8.size
  have hp8 := bp8.lt
  clear bx8 k0 k1 k2 k3 eqr
  generalize w8.alloc (.cells #[.int .i64 x.id, .int .i64 x.bal, .int .i64 x.non, .int .i64 x.dat] 23) = w9 at *
  refine (within_capstanlaw7 b 3 w9 (by omega) (by omega) b_lo b_hi).mono ?_
  rintro e w9' ⟨rfl, rfl⟩
  obtain ⟨⟨d0, d1, d2, d3⟩, k0, k1, k2, k3⟩ := acc_cells by9
  have hxb := HXS.out.bal
  have hxn := HXS.out.non
  have hxd := HXS.out.dat
  have h3 : b % 3 = 0 ∨ b % 3 = 1 ∨ b % 3 = 2 := by omega
  rcases h3 with h3 | h3 | h3
  · rw [h3]
    go_wp2_with fail
    have hY : Below w8.heap.size w8 (w9.setCell ⟨w8.heap.size, 1, none⟩ (.int .i64 (x.bal + 1))) := h9.trans (below_but (RBut.setC _ _ _ _) (Nat.le_refl _) h9.size)
    have byY : Blk (w9.setCell ⟨w8.heap.size, 1, none⟩ (.int .i64 (x.bal + 1))) w8.heap.size 23 (accC (Acc.mk x.id (x.bal + 1) x.non x.dat)) := by9.set_ 1 _
    generalize w9.setCell ⟨w8.heap.size, 1, none⟩ (.int .i64 (x.bal + 1)) = wY at *
    have hvY := hv8.to hY
    have bpY := bp8.to hY
    have fY := f8.trans (hY.mono hf8)
    clear h9 by9 hv8 bp8 f8 d0 d1 d2 d3 k0 k1 k2 k3 hY
    have hyi : ((Acc.mk x.id (x.bal + 1) x.non x.dat)).id = i := HXI.out
    have HYW : Hid (Acc.wf ((Acc.mk x.id (x.bal + 1) x.non x.dat))) := (show Acc.wf _ from ⟨by have := HI.out; rw [hyi]; omega, by show _ ∧ _; simp only []; omega, by show _ ∧ _; simp only []; omega, by show _ ∧ _; simp only []; omega⟩)
    have hsy := HS.out.put (a := (Acc.mk x.id (x.bal + 1) x.non x.dat)) (by rw [hyi]; exact HI.out.1) (by rw [hyi]; exact HI.out.2)
    have HSY := Lib.hid hsy
    have HWY : Hid (∀ u ∈ putS s ((Acc.mk x.id (x.bal + 1) x.non x.dat)), u.wf) := (show ∀ u ∈ putS s ((Acc.mk x.id (x.bal + 1) x.non x.dat)), u.wf from by
      intro x' hx'
      rcases (mem_put s _ HS.out x').1 hx' with ⟨h, _⟩ | ⟨h, _⟩
      · rw [h]; exact HYW.out
      · exact HWF.out x' h)
    have huy := up_own HS.out (a := (Acc.mk x.id (x.bal + 1) x.non x.dat)) (by rw [hyi]; exact HI.out)
    rw [show proveS s ((Acc.mk x.id (x.bal + 1) x.non x.dat)).id = pp from by rw [show ((Acc.mk x.id (x.bal + 1) x.non x.dat)).id = i from HXI.out]; exact HPP.out] at huy
    have hryl := root_len (putS s ((Acc.mk x.id (x.bal + 1) x.non x.dat)))
    obtain ⟨ry, hry⟩ : ∃ r, rootJ 8 (leavesL (putS s ((Acc.mk x.id (x.bal + 1) x.non x.dat)))) = r := ⟨_, rfl⟩
    rw [hry] at huy hryl
    have HUY := Lib.hid huy
    have HRYL := Lib.hid hryl
    have HRY := Lib.hid hry
    clear huy hryl hry hsy hyi h3
    refine wp_region_P (.take 0 (.take 1 (.take 3 (.take 4 (.one 2 (.one 5 (.one 6 (.take 7 .done)))))))) (Below wY.drew.heap.size) (by kernel_rfl) (by kernel_rfl) (by kernel_rfl) (by decide +kernel) (Below.refl _) (fun _ _ _ => Below.trans) (by intro d v c a w h; first | (cases d <;> exact h) | exact absurd h.1 (by simp)) ?_
    have byd : Blk wY.drew w8.heap.size 23 (accC (Acc.mk x.id (x.bal + 1) x.non x.dat)) := byY
    have bpd : Blk wY.drew w5.heap.size 41 (H8 pp) := bpY
    have hvd : StV wY.drew v s := hvY.drew
    have fd : Below w.heap.size w wY.drew := fY.drew
    generalize wY.drew = V0 at *
    clear byY bpY hvY fY
    have fb : Below V0.heap.size V0 V0 := Below.refl _ _
    have hN := byd.lt
    have hN5 := bpd.lt
    refine wpP_load rfl (by rfl) _ _ rfl w8.heap.size 0 rfl (accC (Acc.mk x.id (x.bal + 1) x.non x.dat)) _ (fun w' h => (byd.below (fb.trans h) hN).range) Try.underlying23 rfl info_acc ?_
    simp only [Act.put, List.setIfInBounds_toArray, List.set_cons_zero, List.set_cons_succ]
    refine wpP_load rfl (by rfl) _ _ rfl w5.heap.size 0 rfl (H8 pp) _ (fun w' h => (bpd.below (fb.trans h) hN5).range) Try.underlying41 rfl IPP.out ?_
    simp only [Act.put, List.setIfInBounds_toArray, List.set_cons_zero, List.set_cons_succ]
    first | (refine wpP_quiet (v := ?_) rfl (by rfl) ?_ ?_; rotate_left; (· (intro w' hw'; go_simp; try with_reducible rfl)); simp only [Act.put, List.setIfInBounds_toArray, List.set_cons_zero, List.set_cons_succ]) | (refine wpP_skip rfl (by rfl) ?_; simp only [Act.put, List.setIfInBounds_toArray, List.set_cons_zero, List.set_cons_succ])
    refine wpP_load rfl (by rfl) _ _ rfl w8.heap.size 0 rfl (accC (Acc.mk x.id (x.bal + 1) x.non x.dat)) _ (fun w' h => (byd.below (fb.trans h) hN).range) Try.underlying23 rfl info_acc ?_
    simp only [Act.put, List.setIfInBounds_toArray, List.set_cons_zero, List.set_cons_succ]
    refine wpP_one ?_
    refine wpP_loud rfl (by rfl) ?_
    intro K hK
    go_simp
    refine (up_any (Acc.mk x.id (x.bal + 1) x.non x.dat) HYW.out pp HPL.out HPA.out _).mono ?_
    rintro e Vn ⟨rfl, hb⟩
    rw [HUY.out]
    unfold hv
    refine hK.out _ _ (hb.mono fb.size) ?_
    clear hK K
    try simp only [Act.put, List.setIfInBounds_toArray, List.set_cons_zero, List.set_cons_succ]
    replace fb := fb.trans (hb.mono fb.size)
    clear hb
    refine wpP_one ?_
    refine wpP_loud rfl (by rfl) ?_
    intro K hK
    go_simp
    refine (stPut_any v s (Acc.mk x.id (x.bal + 1) x.non x.dat) _ (hvd.to fb) HS.out).mono ?_
    rintro e Vn ⟨v2, rfl, hp2, hb⟩
    refine hK.out _ _ (hb.mono fb.size) ?_
    clear hK K
    try simp only [Act.put, List.setIfInBounds_toArray, List.set_cons_zero, List.set_cons_succ]
    replace fb := fb.trans (hb.mono fb.size)
    clear hb
    refine wpP_one ?_
    refine wpP_loud rfl (by rfl) ?_
    intro K hK
    go_simp
    refine (stRoot_any v2 (putS s (Acc.mk x.id (x.bal + 1) x.non x.dat)) _ hp2 HSY.out HWY.out).mono ?_
    rintro e Vn ⟨rfl, hb⟩
    rw [HRY.out]
    unfold hv
    refine hK.out _ _ (hb.mono fb.size) ?_
    clear hK K
    try simp only [Act.put, List.setIfInBounds_toArray, List.set_cons_zero, List.set_cons_succ]
    replace fb := fb.trans (hb.mono fb.size)
    clear hb
    have eqk := eq_self ry HRYL.out
    first | (refine wpP_quiet (v := ?_) rfl (by rfl) ?_ ?_; rotate_left; (· (intro w' hw'; go_simp; try with_reducible rfl)); simp only [Act.put, List.setIfInBounds_toArray, List.set_cons_zero, List.set_cons_succ]) | (refine wpP_skip rfl (by rfl) ?_; simp only [Act.put, List.setIfInBounds_toArray, List.set_cons_zero, List.set_cons_succ])
    clear eqk
    refine wpP_done ?_
    have byY := byd.to fb
    have hvY := hvd.to fb
    have bpY := bpd.to fb
    have fY := fd.trans (fb.mono fd.size)
    clear byd hvd bpd fd fb hN hN5 hp2
    by_cases hne : r = ry
    · subst hne
      go_wp2_with fail
      refine wp_region_P (.take 0 (.take 2 (.take 3 (.one 1 (.one 4 (.one 5 (.take 6 .done))))))) (Below Vn.drew.heap.size) (by kernel_rfl) (by kernel_rfl) (by kernel_rfl) (by decide +kernel) (Below.refl _) (fun _ _ _ => Below.trans) (by intro d v c a w h; first | (cases d <;> exact h) | exact absurd h.1 (by simp)) ?_
      have byd : Blk Vn.drew w8.heap.size 23 (accC (Acc.mk x.id (x.bal + 1) x.non x.dat)) := byY
      have bpd : Blk Vn.drew w5.heap.size 41 (H8 pp) := bpY
      have hvd : StV Vn.drew v s := hvY.drew
      have fd : Below w.heap.size w Vn.drew := fY.drew
      generalize Vn.drew = V0 at *
      clear byY bpY hvY fY
      have fb : Below V0.heap.size V0 V0 := Below.refl _ _
      have hN := byd.lt
      have hN5 := bpd.lt
      first | (refine wpP_quiet (v := ?_) rfl (by rfl) ?_ ?_; rotate_left; (· (intro w' hw'; go_simp; try with_reducible rfl)); simp only [Act.put, List.setIfInBounds_toArray, List.set_cons_zero, List.set_cons_succ]) | (refine wpP_skip rfl (by rfl) ?_; simp only [Act.put, List.setIfInBounds_toArray, List.set_cons_zero, List.set_cons_succ])
      first | (refine wpP_quiet (v := ?_) rfl (by rfl) ?_ ?_; rotate_left; (· (intro w' hw'; go_simp; try with_reducible rfl)); simp only [Act.put, List.setIfInBounds_toArray, List.set_cons_zero, List.set_cons_succ]) | (refine wpP_skip rfl (by rfl) ?_; simp only [Act.put, List.setIfInBounds_toArray, List.set_cons_zero, List.set_cons_succ])
      refine wpP_load rfl (by rfl) _ _ rfl w8.heap.size 0 rfl (accC (Acc.mk x.id (x.bal + 1) x.non x.dat)) _ (fun w' h => (byd.below (fb.trans h) hN).range) Try.underlying23 rfl info_acc ?_
      simp only [Act.put, List.setIfInBounds_toArray, List.set_cons_zero, List.set_cons_succ]
      refine wpP_one ?_
      refine wpP_loud rfl (by rfl) ?_
      intro K hK
      go_simp
      refine (stRefRoot_any v s _ (hvd.to fb) HS.out HWF.out).mono ?_
      rintro e Vn ⟨rfl, hb⟩
      rw [HR.out]
      unfold hv
      refine hK.out _ _ (hb.mono fb.size) ?_
      clear hK K
      try simp only [Act.put, List.setIfInBounds_toArray, List.set_cons_zero, List.set_cons_succ]
      replace fb := fb.trans (hb.mono fb.size)
      clear hb
      refine wpP_one ?_
      refine wpP_loud rfl (by rfl) ?_
      intro K hK
      go_simp
      refine (stPut_any v s (Acc.mk x.id (x.bal + 1) x.non x.dat) _ (hvd.to fb) HS.out).mono ?_
      rintro e Vn ⟨v2, rfl, hp2, hb⟩
      refine hK.out _ _ (hb.mono fb.size) ?_
      clear hK K
      try simp only [Act.put, List.setIfInBounds_toArray, List.set_cons_zero, List.set_cons_succ]
      replace fb := fb.trans (hb.mono fb.size)
      clear hb
      refine wpP_one ?_
      refine wpP_loud rfl (by rfl) ?_
      intro K hK
      go_simp
      refine (stRefRoot_any v2 (putS s (Acc.mk x.id (x.bal + 1) x.non x.dat)) _ hp2 HSY.out HWY.out).mono ?_
      rintro e Vn ⟨rfl, hb⟩
      rw [HRY.out]
      unfold hv
      refine hK.out _ _ (hb.mono fb.size) ?_
      clear hK K
      try simp only [Act.put, List.setIfInBounds_toArray, List.set_cons_zero, List.set_cons_succ]
      replace fb := fb.trans (hb.mono fb.size)
      clear hb
      have eqk := eq_self r HRL.out
      first | (refine wpP_quiet (v := ?_) rfl (by rfl) ?_ ?_; rotate_left; (· (intro w' hw'; go_simp; try with_reducible rfl)); simp only [Act.put, List.setIfInBounds_toArray, List.set_cons_zero, List.set_cons_succ]) | (refine wpP_skip rfl (by rfl) ?_; simp only [Act.put, List.setIfInBounds_toArray, List.set_cons_zero, List.set_cons_succ])
      clear eqk
      refine wpP_done ?_
      go_wp2_with fail
      go_ret
      exact ⟨rfl, fd.trans (fb.mono fd.size)⟩
    · go_wp2_with fail
      refine wp_region_P (.take 0 (.take 2 (.take 3 (.one 1 (.one 4 (.one 5 (.take 6 .done))))))) (Below Vn.drew.heap.size) (by kernel_rfl) (by kernel_rfl) (by kernel_rfl) (by decide +kernel) (Below.refl _) (fun _ _ _ => Below.trans) (by intro d v c a w h; first | (cases d <;> exact h) | exact absurd h.1 (by simp)) ?_
      have byd : Blk Vn.drew w8.heap.size 23 (accC (Acc.mk x.id (x.bal + 1) x.non x.dat)) := byY
      have bpd : Blk Vn.drew w5.heap.size 41 (H8 pp) := bpY
      have hvd : StV Vn.drew v s := hvY.drew
      have fd : Below w.heap.size w Vn.drew := fY.drew
      generalize Vn.drew = V0 at *
      clear byY bpY hvY fY
      have fb : Below V0.heap.size V0 V0 := Below.refl _ _
      have hN := byd.lt
      have hN5 := bpd.lt
      first | (refine wpP_quiet (v := ?_) rfl (by rfl) ?_ ?_; rotate_left; (· (intro w' hw'; go_simp; try with_reducible rfl)); simp only [Act.put, List.setIfInBounds_toArray, List.set_cons_zero, List.set_cons_succ]) | (refine wpP_skip rfl (by rfl) ?_; simp only [Act.put, List.setIfInBounds_toArray, List.set_cons_zero, List.set_cons_succ])
      first | (refine wpP_quiet (v := ?_) rfl (by rfl) ?_ ?_; rotate_left; (· (intro w' hw'; go_simp; try with_reducible rfl)); simp only [Act.put, List.setIfInBounds_toArray, List.set_cons_zero, List.set_cons_succ]) | (refine wpP_skip rfl (by rfl) ?_; simp only [Act.put, List.setIfInBounds_toArray, List.set_cons_zero, List.set_cons_succ])
      refine wpP_load rfl (by rfl) _ _ rfl w8.heap.size 0 rfl (accC (Acc.mk x.id (x.bal + 1) x.non x.dat)) _ (fun w' h => (byd.below (fb.trans h) hN).range) Try.underlying23 rfl info_acc ?_
      simp only [Act.put, List.setIfInBounds_toArray, List.set_cons_zero, List.set_cons_succ]
      refine wpP_one ?_
      refine wpP_loud rfl (by rfl) ?_
      intro K hK
      go_simp
      refine (stRefRoot_any v s _ (hvd.to fb) HS.out HWF.out).mono ?_
      rintro e Vn ⟨rfl, hb⟩
      rw [HR.out]
      unfold hv
      refine hK.out _ _ (hb.mono fb.size) ?_
      clear hK K
      try simp only [Act.put, List.setIfInBounds_toArray, List.set_cons_zero, List.set_cons_succ]
      replace fb := fb.trans (hb.mono fb.size)
      clear hb
      refine wpP_one ?_
      refine wpP_loud rfl (by rfl) ?_
      intro K hK
      go_simp
      refine (stPut_any v s (Acc.mk x.id (x.bal + 1) x.non x.dat) _ (hvd.to fb) HS.out).mono ?_
      rintro e Vn ⟨v2, rfl, hp2, hb⟩
      refine hK.out _ _ (hb.mono fb.size) ?_
      clear hK K
      try simp only [Act.put, List.setIfInBounds_toArray, List.set_cons_zero, List.set_cons_succ]
      replace fb := fb.trans (hb.mono fb.size)
      clear hb
      refine wpP_one ?_
      refine wpP_loud rfl (by rfl) ?_
      intro K hK
      go_simp
      refine (stRefRoot_any v2 (putS s (Acc.mk x.id (x.bal + 1) x.non x.dat)) _ hp2 HSY.out HWY.out).mono ?_
      rintro e Vn ⟨rfl, hb⟩
      rw [HRY.out]
      unfold hv
      refine hK.out _ _ (hb.mono fb.size) ?_
      clear hK K
      try simp only [Act.put, List.setIfInBounds_toArray, List.set_cons_zero, List.set_cons_succ]
      replace fb := fb.trans (hb.mono fb.size)
      clear hb
      have eqk := eq_other r ry HRL.out HRYL.out hne
      first | (refine wpP_quiet (v := ?_) rfl (by rfl) ?_ ?_; rotate_left; (· (intro w' hw'; go_simp; try with_reducible rfl)); simp only [Act.put, List.setIfInBounds_toArray, List.set_cons_zero, List.set_cons_succ]) | (refine wpP_skip rfl (by rfl) ?_; simp only [Act.put, List.setIfInBounds_toArray, List.set_cons_zero, List.set_cons_succ])
      clear eqk
      refine wpP_done ?_
      have byY := byd.to fb
      have hvY := hvd.to fb
      have bpY := bpd.to fb
      have fY := fd.trans (fb.mono fd.size)
      obtain ⟨-, k0, k1, k2, k3⟩ := acc_cells byY
      go_wp2_with (first
        | (refine wpl_load_fld (by rfl) _ _ rfl w5.heap.size 0 rfl (H8 pp) _ bpY.range Try.underlying41 rfl IPP.out ?_))
      refine (up_any (Acc.mk x.id (x.bal + 1) x.non x.dat) HYW.out pp HPL.out HPA.out Vn).mono ?_
      rintro e u1 ⟨rfl, hu1⟩
      rw [HUY.out]
      have hvu := hvY.to hu1
      have fu := fY.trans (hu1.mono fY.size)
      clear k0 k1 k2 k3
      go_wp2_with fail
      refine (stRoot_any v s u1 hvu HS.out HWF.out).mono ?_
      rintro e u2 ⟨rfl, hu2⟩
      rw [HR.out]
      have eqr := eq_other ry r HRYL.out HRL.out (fun e => hne e.symm)
      unfold hv
      go_wp2_with fail
      go_ret
      exact ⟨rfl, fu.trans (hu2.mono fu.size)⟩
  · rw [h3]
    go_wp2_with fail
    have hY : Below w8.heap.size w8 (w9.setCell ⟨w8.heap.size, 2, none⟩ (.int .i64 (x.non + 1))) := h9.trans (below_but (RBut.setC _ _ _ _) (Nat.le_refl _) h9.size)
    have byY : Blk (w9.setCell ⟨w8.heap.size, 2, none⟩ (.int .i64 (x.non + 1))) w8.heap.size 23 (accC (Acc.mk x.id x.bal (x.non + 1) x.dat)) := by9.set_ 2 _
    generalize w9.setCell ⟨w8.heap.size, 2, none⟩ (.int .i64 (x.non + 1)) = wY at *
    have hvY := hv8.to hY
    have bpY := bp8.to hY
    have fY := f8.trans (hY.mono hf8)
    clear h9 by9 hv8 bp8 f8 d0 d1 d2 d3 k0 k1 k2 k3 hY
    have hyi : ((Acc.mk x.id x.bal (x.non + 1) x.dat)).id = i := HXI.out
    have HYW : Hid (Acc.wf ((Acc.mk x.id x.bal (x.non + 1) x.dat))) := (show Acc.wf _ from ⟨by have := HI.out; rw [hyi]; omega, by show _ ∧ _; simp only []; omega, by show _ ∧ _; simp only []; omega, by show _ ∧ _; simp only []; omega⟩)
    have hsy := HS.out.put (a := (Acc.mk x.id x.bal (x.non + 1) x.dat)) (by rw [hyi]; exact HI.out.1) (by rw [hyi]; exact HI.out.2)
    have HSY := Lib.hid hsy
    have HWY : Hid (∀ u ∈ putS s ((Acc.mk x.id x.bal (x.non + 1) x.dat)), u.wf) := (show ∀ u ∈ putS s ((Acc.mk x.id x.bal (x.non + 1) x.dat)), u.wf from by
      intro x' hx'
      rcases (mem_put s _ HS.out x').1 hx' with ⟨h, _⟩ | ⟨h, _⟩
      · rw [h]; exact HYW.out
      · exact HWF.out x' h)
    have huy := up_own HS.out (a := (Acc.mk x.id x.bal (x.non + 1) x.dat)) (by rw [hyi]; exact HI.out)
    rw [show proveS s ((Acc.mk x.id x.bal (x.non + 1) x.dat)).id = pp from by rw [show ((Acc.mk x.id x.bal (x.non + 1) x.dat)).id = i from HXI.out]; exact HPP.out] at huy
    have hryl := root_len (putS s ((Acc.mk x.id x.bal (x.non + 1) x.dat)))
    obtain ⟨ry, hry⟩ : ∃ r, rootJ 8 (leavesL (putS s ((Acc.mk x.id x.bal (x.non + 1) x.dat)))) = r := ⟨_, rfl⟩
    rw [hry] at huy hryl
    have HUY := Lib.hid huy
    have HRYL := Lib.hid hryl
    have HRY := Lib.hid hry
    clear huy hryl hry hsy hyi h3
    refine wp_region_P (.take 0 (.take 1 (.take 3 (.take 4 (.one 2 (.one 5 (.one 6 (.take 7 .done)))))))) (Below wY.drew.heap.size) (by kernel_rfl) (by kernel_rfl) (by kernel_rfl) (by decide +kernel) (Below.refl _) (fun _ _ _ => Below.trans) (by intro d v c a w h; first | (cases d <;> exact h) | exact absurd h.1 (by simp)) ?_
    have byd : Blk wY.drew w8.heap.size 23 (accC (Acc.mk x.id x.bal (x.non + 1) x.dat)) := byY
    have bpd : Blk wY.drew w5.heap.size 41 (H8 pp) := bpY
    have hvd : StV wY.drew v s := hvY.drew
    have fd : Below w.heap.size w wY.drew := fY.drew
    generalize wY.drew = V0 at *
    clear byY bpY hvY fY
    have fb : Below V0.heap.size V0 V0 := Below.refl _ _
    have hN := byd.lt
    have hN5 := bpd.lt
    refine wpP_load rfl (by rfl) _ _ rfl w8.heap.size 0 rfl (accC (Acc.mk x.id x.bal (x.non + 1) x.dat)) _ (fun w' h => (byd.below (fb.trans h) hN).range) Try.underlying23 rfl info_acc ?_
    simp only [Act.put, List.setIfInBounds_toArray, List.set_cons_zero, List.set_cons_succ]
    refine wpP_load rfl (by rfl) _ _ rfl w5.heap.size 0 rfl (H8 pp) _ (fun w' h => (bpd.below (fb.trans h) hN5).range) Try.underlying41 rfl IPP.out ?_
    simp only [Act.put, List.setIfInBounds_toArray, List.set_cons_zero, List.set_cons_succ]
    first | (refine wpP_quiet (v := ?_) rfl (by rfl) ?_ ?_; rotate_left; (· (intro w' hw'; go_simp; try with_reducible rfl)); simp only [Act.put, List.setIfInBounds_toArray, List.set_cons_zero, List.set_cons_succ]) | (refine wpP_skip rfl (by rfl) ?_; simp only [Act.put, List.setIfInBounds_toArray, List.set_cons_zero, List.set_cons_succ])
    refine wpP_load rfl (by rfl) _ _ rfl w8.heap.size 0 rfl (accC (Acc.mk x.id x.bal (x.non + 1) x.dat)) _ (fun w' h => (byd.below (fb.trans h) hN).range) Try.underlying23 rfl info_acc ?_
    simp only [Act.put, List.setIfInBounds_toArray, List.set_cons_zero, List.set_cons_succ]
    refine wpP_one ?_
    refine wpP_loud rfl (by rfl) ?_
    intro K hK
    go_simp
    refine (up_any (Acc.mk x.id x.bal (x.non + 1) x.dat) HYW.out pp HPL.out HPA.out _).mono ?_
    rintro e Vn ⟨rfl, hb⟩
    rw [HUY.out]
    unfold hv
    refine hK.out _ _ (hb.mono fb.size) ?_
    clear hK K
    try simp only [Act.put, List.setIfInBounds_toArray, List.set_cons_zero, List.set_cons_succ]
    replace fb := fb.trans (hb.mono fb.size)
    clear hb
    refine wpP_one ?_
    refine wpP_loud rfl (by rfl) ?_
    intro K hK
    go_simp
    refine (stPut_any v s (Acc.mk x.id x.bal (x.non + 1) x.dat) _ (hvd.to fb) HS.out).mono ?_
    rintro e Vn ⟨v2, rfl, hp2, hb⟩
    refine hK.out _ _ (hb.mono fb.size) ?_
    clear hK K
    try simp only [Act.put, List.setIfInBounds_toArray, List.set_cons_zero, List.set_cons_succ]
    replace fb := fb.trans (hb.mono fb.size)
    clear hb
    refine wpP_one ?_
    refine wpP_loud rfl (by rfl) ?_
    intro K hK
    go_simp
    refine (stRoot_any v2 (putS s (Acc.mk x.id x.bal (x.non + 1) x.dat)) _ hp2 HSY.out HWY.out).mono ?_
    rintro e Vn ⟨rfl, hb⟩
    rw [HRY.out]
    unfold hv
    refine hK.out _ _ (hb.mono fb.size) ?_
    clear hK K
    try simp only [Act.put, List.setIfInBounds_toArray, List.set_cons_zero, List.set_cons_succ]
    replace fb := fb.trans (hb.mono fb.size)
    clear hb
    have eqk := eq_self ry HRYL.out
    first | (refine wpP_quiet (v := ?_) rfl (by rfl) ?_ ?_; rotate_left; (· (intro w' hw'; go_simp; try with_reducible rfl)); simp only [Act.put, List.setIfInBounds_toArray, List.set_cons_zero, List.set_cons_succ]) | (refine wpP_skip rfl (by rfl) ?_; simp only [Act.put, List.setIfInBounds_toArray, List.set_cons_zero, List.set_cons_succ])
    clear eqk
    refine wpP_done ?_
    have byY := byd.to fb
    have hvY := hvd.to fb
    have bpY := bpd.to fb
    have fY := fd.trans (fb.mono fd.size)
    clear byd hvd bpd fd fb hN hN5 hp2
    by_cases hne : r = ry
    · subst hne
      go_wp2_with fail
      refine wp_region_P (.take 0 (.take 2 (.take 3 (.one 1 (.one 4 (.one 5 (.take 6 .done))))))) (Below Vn.drew.heap.size) (by kernel_rfl) (by kernel_rfl) (by kernel_rfl) (by decide +kernel) (Below.refl _) (fun _ _ _ => Below.trans) (by intro d v c a w h; first | (cases d <;> exact h) | exact absurd h.1 (by simp)) ?_
      have byd : Blk Vn.drew w8.heap.size 23 (accC (Acc.mk x.id x.bal (x.non + 1) x.dat)) := byY
      have bpd : Blk Vn.drew w5.heap.size 41 (H8 pp) := bpY
      have hvd : StV Vn.drew v s := hvY.drew
      have fd : Below w.heap.size w Vn.drew := fY.drew
      generalize Vn.drew = V0 at *
      clear byY bpY hvY fY
      have fb : Below V0.heap.size V0 V0 := Below.refl _ _
      have hN := byd.lt
      have hN5 := bpd.lt
      first | (refine wpP_quiet (v := ?_) rfl (by rfl) ?_ ?_; rotate_left; (· (intro w' hw'; go_simp; try with_reducible rfl)); simp only [Act.put, List.setIfInBounds_toArray, List.set_cons_zero, List.set_cons_succ]) | (refine wpP_skip rfl (by rfl) ?_; simp only [Act.put, List.setIfInBounds_toArray, List.set_cons_zero, List.set_cons_succ])
      first | (refine wpP_quiet (v := ?_) rfl (by rfl) ?_ ?_; rotate_left; (· (intro w' hw'; go_simp; try with_reducible rfl)); simp only [Act.put, List.setIfInBounds_toArray, List.set_cons_zero, List.set_cons_succ]) | (refine wpP_skip rfl (by rfl) ?_; simp only [Act.put, List.setIfInBounds_toArray, List.set_cons_zero, List.set_cons_succ])
      refine wpP_load rfl (by rfl) _ _ rfl w8.heap.size 0 rfl (accC (Acc.mk x.id x.bal (x.non + 1) x.dat)) _ (fun w' h => (byd.below (fb.trans h) hN).range) Try.underlying23 rfl info_acc ?_
      simp only [Act.put, List.setIfInBounds_toArray, List.set_cons_zero, List.set_cons_succ]
      refine wpP_one ?_
      refine wpP_loud rfl (by rfl) ?_
      intro K hK
      go_simp
      refine (stRefRoot_any v s _ (hvd.to fb) HS.out HWF.out).mono ?_
      rintro e Vn ⟨rfl, hb⟩
      rw [HR.out]
      unfold hv
      refine hK.out _ _ (hb.mono fb.size) ?_
      clear hK K
      try simp only [Act.put, List.setIfInBounds_toArray, List.set_cons_zero, List.set_cons_succ]
      replace fb := fb.trans (hb.mono fb.size)
      clear hb
      refine wpP_one ?_
      refine wpP_loud rfl (by rfl) ?_
      intro K hK
      go_simp
      refine (stPut_any v s (Acc.mk x.id x.bal (x.non + 1) x.dat) _ (hvd.to fb) HS.out).mono ?_
      rintro e Vn ⟨v2, rfl, hp2, hb⟩
      refine hK.out _ _ (hb.mono fb.size) ?_
      clear hK K
      try simp only [Act.put, List.setIfInBounds_toArray, List.set_cons_zero, List.set_cons_succ]
      replace fb := fb.trans (hb.mono fb.size)
      clear hb
      refine wpP_one ?_
      refine wpP_loud rfl (by rfl) ?_
      intro K hK
      go_simp
      refine (stRefRoot_any v2 (putS s (Acc.mk x.id x.bal (x.non + 1) x.dat)) _ hp2 HSY.out HWY.out).mono ?_
      rintro e Vn ⟨rfl, hb⟩
      rw [HRY.out]
      unfold hv
      refine hK.out _ _ (hb.mono fb.size) ?_
      clear hK K
      try simp only [Act.put, List.setIfInBounds_toArray, List.set_cons_zero, List.set_cons_succ]
      replace fb := fb.trans (hb.mono fb.size)
      clear hb
      have eqk := eq_self r HRL.out
      first | (refine wpP_quiet (v := ?_) rfl (by rfl) ?_ ?_; rotate_left; (· (intro w' hw'; go_simp; try with_reducible rfl)); simp only [Act.put, List.setIfInBounds_toArray, List.set_cons_zero, List.set_cons_succ]) | (refine wpP_skip rfl (by rfl) ?_; simp only [Act.put, List.setIfInBounds_toArray, List.set_cons_zero, List.set_cons_succ])
      clear eqk
      refine wpP_done ?_
      go_wp2_with fail
      go_ret
      exact ⟨rfl, fd.trans (fb.mono fd.size)⟩
    · go_wp2_with fail
      refine wp_region_P (.take 0 (.take 2 (.take 3 (.one 1 (.one 4 (.one 5 (.take 6 .done))))))) (Below Vn.drew.heap.size) (by kernel_rfl) (by kernel_rfl) (by kernel_rfl) (by decide +kernel) (Below.refl _) (fun _ _ _ => Below.trans) (by intro d v c a w h; first | (cases d <;> exact h) | exact absurd h.1 (by simp)) ?_
      have byd : Blk Vn.drew w8.heap.size 23 (accC (Acc.mk x.id x.bal (x.non + 1) x.dat)) := byY
      have bpd : Blk Vn.drew w5.heap.size 41 (H8 pp) := bpY
      have hvd : StV Vn.drew v s := hvY.drew
      have fd : Below w.heap.size w Vn.drew := fY.drew
      generalize Vn.drew = V0 at *
      clear byY bpY hvY fY
      have fb : Below V0.heap.size V0 V0 := Below.refl _ _
      have hN := byd.lt
      have hN5 := bpd.lt
      first | (refine wpP_quiet (v := ?_) rfl (by rfl) ?_ ?_; rotate_left; (· (intro w' hw'; go_simp; try with_reducible rfl)); simp only [Act.put, List.setIfInBounds_toArray, List.set_cons_zero, List.set_cons_succ]) | (refine wpP_skip rfl (by rfl) ?_; simp only [Act.put, List.setIfInBounds_toArray, List.set_cons_zero, List.set_cons_succ])
      first | (refine wpP_quiet (v := ?_) rfl (by rfl) ?_ ?_; rotate_left; (· (intro w' hw'; go_simp; try with_reducible rfl)); simp only [Act.put, List.setIfInBounds_toArray, List.set_cons_zero, List.set_cons_succ]) | (refine wpP_skip rfl (by rfl) ?_; simp only [Act.put, List.setIfInBounds_toArray, List.set_cons_zero, List.set_cons_succ])
      refine wpP_load rfl (by rfl) _ _ rfl w8.heap.size 0 rfl (accC (Acc.mk x.id x.bal (x.non + 1) x.dat)) _ (fun w' h => (byd.below (fb.trans h) hN).range) Try.underlying23 rfl info_acc ?_
      simp only [Act.put, List.setIfInBounds_toArray, List.set_cons_zero, List.set_cons_succ]
      refine wpP_one ?_
      refine wpP_loud rfl (by rfl) ?_
      intro K hK
      go_simp
      refine (stRefRoot_any v s _ (hvd.to fb) HS.out HWF.out).mono ?_
      rintro e Vn ⟨rfl, hb⟩
      rw [HR.out]
      unfold hv
      refine hK.out _ _ (hb.mono fb.size) ?_
      clear hK K
      try simp only [Act.put, List.setIfInBounds_toArray, List.set_cons_zero, List.set_cons_succ]
      replace fb := fb.trans (hb.mono fb.size)
      clear hb
      refine wpP_one ?_
      refine wpP_loud rfl (by rfl) ?_
      intro K hK
      go_simp
      refine (stPut_any v s (Acc.mk x.id x.bal (x.non + 1) x.dat) _ (hvd.to fb) HS.out).mono ?_
      rintro e Vn ⟨v2, rfl, hp2, hb⟩
      refine hK.out _ _ (hb.mono fb.size) ?_
      clear hK K
      try simp only [Act.put, List.setIfInBounds_toArray, List.set_cons_zero, List.set_cons_succ]
      replace fb := fb.trans (hb.mono fb.size)
      clear hb
      refine wpP_one ?_
      refine wpP_loud rfl (by rfl) ?_
      intro K hK
      go_simp
      refine (stRefRoot_any v2 (putS s (Acc.mk x.id x.bal (x.non + 1) x.dat)) _ hp2 HSY.out HWY.out).mono ?_
      rintro e Vn ⟨rfl, hb⟩
      rw [HRY.out]
      unfold hv
      refine hK.out _ _ (hb.mono fb.size) ?_
      clear hK K
      try simp only [Act.put, List.setIfInBounds_toArray, List.set_cons_zero, List.set_cons_succ]
      replace fb := fb.trans (hb.mono fb.size)
      clear hb
      have eqk := eq_other r ry HRL.out HRYL.out hne
      first | (refine wpP_quiet (v := ?_) rfl (by rfl) ?_ ?_; rotate_left; (· (intro w' hw'; go_simp; try with_reducible rfl)); simp only [Act.put, List.setIfInBounds_toArray, List.set_cons_zero, List.set_cons_succ]) | (refine wpP_skip rfl (by rfl) ?_; simp only [Act.put, List.setIfInBounds_toArray, List.set_cons_zero, List.set_cons_succ])
      clear eqk
      refine wpP_done ?_
      have byY := byd.to fb
      have hvY := hvd.to fb
      have bpY := bpd.to fb
      have fY := fd.trans (fb.mono fd.size)
      obtain ⟨-, k0, k1, k2, k3⟩ := acc_cells byY
      go_wp2_with (first
        | (refine wpl_load_fld (by rfl) _ _ rfl w5.heap.size 0 rfl (H8 pp) _ bpY.range Try.underlying41 rfl IPP.out ?_))
      refine (up_any (Acc.mk x.id x.bal (x.non + 1) x.dat) HYW.out pp HPL.out HPA.out Vn).mono ?_
      rintro e u1 ⟨rfl, hu1⟩
      rw [HUY.out]
      have hvu := hvY.to hu1
      have fu := fY.trans (hu1.mono fY.size)
      clear k0 k1 k2 k3
      go_wp2_with fail
      refine (stRoot_any v s u1 hvu HS.out HWF.out).mono ?_
      rintro e u2 ⟨rfl, hu2⟩
      rw [HR.out]
      have eqr := eq_other ry r HRYL.out HRL.out (fun e => hne e.symm)
      unfold hv
      go_wp2_with fail
      go_ret
      exact ⟨rfl, fu.trans (hu2.mono fu.size)⟩
  · rw [h3]
    go_wp2_with fail
    obtain ⟨jlo, jhi⟩ := tdiv_bd b 3 (by decide) b_lo b_hi
    obtain ⟨j, hj⟩ : ∃ j, b.tdiv 3 = j := ⟨_, rfl⟩
    rw [hj] at jlo jhi
    obtain ⟨m, hm9⟩ : ∃ m, j % 9 = m := ⟨_, rfl⟩
    have hmb : 0 ≤ m ∧ m < 9 := by omega
    have wj : IntKind.i64.wrap j = j := IntWalk.i64_in _ (by omega)
    have wd : IntKind.i64.wrap (x.dat + 1) = x.dat + 1 := IntWalk.i64_in _ (by omega)
    have wm : IntKind.i64.wrap (x.dat + 1 + m) = x.dat + 1 + m := IntWalk.i64_in _ (by omega)
    refine wp_region_P (.take 0 (.take 3 (.take 4 (.two 1 (.take 2 (.one 5 (.take 6 (.take 7 (.one 8 .done))))) 5 (.one 1 (.take 2 (.take 6 (.take 7 (.one 8 .done))))))))) (fun _ _ => True) (by kernel_rfl) (by kernel_rfl) (by kernel_rfl) (by decide +kernel) (fun _ => trivial) (fun _ _ _ _ _ => trivial) (by intro d v c a w h; first | (cases d <;> exact h) | exact absurd h.1 (by simp)) ?_
    have by9' : Blk w9.drew w8.heap.size 23 (accC x) := by9
    have h9' : Below w8.heap.size w8 w9.drew := h9.drew
    clear by9 h9 d0 d1 d2 d3 k0 k1 k2 k3
    generalize w9.drew = u9 at *
    have by9 := by9'
    have h9 := h9'
    clear by9' h9'
    obtain ⟨⟨d0, d1, d2, d3⟩, k0, k1, k2, k3⟩ := acc_cells by9
    first | (refine wpP_quiet (v := ?_) rfl (by rfl) ?_ ?_; rotate_left; (· (intro w' hw'; go_simp; try with_reducible rfl)); simp only [Act.put, List.setIfInBounds_toArray, List.set_cons_zero, List.set_cons_succ]) | (refine wpP_skip rfl (by rfl) ?_; simp only [Act.put, List.setIfInBounds_toArray, List.set_cons_zero, List.set_cons_succ])
    first | (refine wpP_quiet (v := ?_) rfl (by rfl) ?_ ?_; rotate_left; (· (intro w' hw'; go_simp; try with_reducible rfl)); simp only [Act.put, List.setIfInBounds_toArray, List.set_cons_zero, List.set_cons_succ]) | (refine wpP_skip rfl (by rfl) ?_; simp only [Act.put, List.setIfInBounds_toArray, List.set_cons_zero, List.set_cons_succ])
    first | (refine wpP_quiet (v := ?_) rfl (by rfl) ?_ ?_; rotate_left; (· (intro w' hw'; go_simp; try with_reducible rfl)); simp only [Act.put, List.setIfInBounds_toArray, List.set_cons_zero, List.set_cons_succ]) | (refine wpP_skip rfl (by rfl) ?_; simp only [Act.put, List.setIfInBounds_toArray, List.set_cons_zero, List.set_cons_succ])
    refine wpP_two ?_ ?_
    · refine wpP_loud rfl (by rfl) ?_
      intro K hK
      go_simp
      refine hK.out _ _ trivial ?_
      clear hK K
      try simp only [Act.put, List.setIfInBounds_toArray, List.set_cons_zero, List.set_cons_succ]
      first | (refine wpP_quiet (v := ?_) rfl (by rfl) ?_ ?_; rotate_left; (· (intro w' hw'; go_simp; try with_reducible rfl)); simp only [Act.put, List.setIfInBounds_toArray, List.set_cons_zero, List.set_cons_succ]) | (refine wpP_skip rfl (by rfl) ?_; simp only [Act.put, List.setIfInBounds_toArray, List.set_cons_zero, List.set_cons_succ])
      refine wpP_one ?_
      refine wpP_loud rfl (by rfl) ?_
      intro K hK
      go_simp
      refine (within_capstanlaw7 j 9 _ (by omega) (by omega) jlo jhi).mono ?_
      rintro e Vn ⟨rfl, rfl⟩
      rw [hm9]
      refine hK.out _ _ trivial ?_
      clear hK K
      try simp only [Act.put, List.setIfInBounds_toArray, List.set_cons_zero, List.set_cons_succ]
      first | (refine wpP_quiet (v := ?_) rfl (by rfl) ?_ ?_; rotate_left; (· (intro w' hw'; go_simp; try with_reducible rfl)); simp only [Act.put, List.setIfInBounds_toArray, List.set_cons_zero, List.set_cons_succ]) | (refine wpP_skip rfl (by rfl) ?_; simp only [Act.put, List.setIfInBounds_toArray, List.set_cons_zero, List.set_cons_succ])
      first | (refine wpP_quiet (v := ?_) rfl (by rfl) ?_ ?_; rotate_left; (· (intro w' hw'; go_simp; try with_reducible rfl)); simp only [Act.put, List.setIfInBounds_toArray, List.set_cons_zero, List.set_cons_succ]) | (refine wpP_skip rfl (by rfl) ?_; simp only [Act.put, List.setIfInBounds_toArray, List.set_cons_zero, List.set_cons_succ])
      refine wpP_one ?_
      refine wpP_loud rfl (by rfl) ?_
      intro K hK
      go_simp
      refine hK.out _ _ trivial ?_
      clear hK K
      try simp only [Act.put, List.setIfInBounds_toArray, List.set_cons_zero, List.set_cons_succ]
      refine wpP_done ?_
      have hY : Below w8.heap.size w8 (u9.setCell ⟨w8.heap.size, 3, none⟩ (.int .i64 (x.dat + 1 + m))) := h9.trans (below_but (RBut.setC _ _ _ _) (Nat.le_refl _) h9.size)
      have byY : Blk (u9.setCell ⟨w8.heap.size, 3, none⟩ (.int .i64 (x.dat + 1 + m))) w8.heap.size 23 (accC (Acc.mk x.id x.bal x.non (x.dat + 1 + m))) := by9.set_ 3 _
      generalize u9.setCell ⟨w8.heap.size, 3, none⟩ (.int .i64 (x.dat + 1 + m)) = wY at *
      have hvY := hv8.to hY
      have bpY := bp8.to hY
      have fY := f8.trans (hY.mono hf8)
      clear h9 by9 hv8 bp8 f8 d0 d1 d2 d3 k0 k1 k2 k3 hY hm9 hj wj wd wm
      go_wp2_with fail
      have hyi : ((Acc.mk x.id x.bal x.non (x.dat + 1 + m))).id = i := HXI.out
      have HYW : Hid (Acc.wf ((Acc.mk x.id x.bal x.non (x.dat + 1 + m)))) := (show Acc.wf _ from ⟨by have := HI.out; rw [hyi]; omega, by show _ ∧ _; simp only []; omega, by show _ ∧ _; simp only []; omega, by show _ ∧ _; simp only []; omega⟩)
      have hsy := HS.out.put (a := (Acc.mk x.id x.bal x.non (x.dat + 1 + m))) (by rw [hyi]; exact HI.out.1) (by rw [hyi]; exact HI.out.2)
      have HSY := Lib.hid hsy
      have HWY : Hid (∀ u ∈ putS s ((Acc.mk x.id x.bal x.non (x.dat + 1 + m))), u.wf) := (show ∀ u ∈ putS s ((Acc.mk x.id x.bal x.non (x.dat + 1 + m))), u.wf from by
        intro x' hx'
        rcases (mem_put s _ HS.out x').1 hx' with ⟨h, _⟩ | ⟨h, _⟩
        · rw [h]; exact HYW.out
        · exact HWF.out x' h)
      have huy := up_own HS.out (a := (Acc.mk x.id x.bal x.non (x.dat + 1 + m))) (by rw [hyi]; exact HI.out)
      rw [show proveS s ((Acc.mk x.id x.bal x.non (x.dat + 1 + m))).id = pp from by rw [show ((Acc.mk x.id x.bal x.non (x.dat + 1 + m))).id = i from HXI.out]; exact HPP.out] at huy
      have hryl := root_len (putS s ((Acc.mk x.id x.bal x.non (x.dat + 1 + m))))
      obtain ⟨ry, hry⟩ : ∃ r, rootJ 8 (leavesL (putS s ((Acc.mk x.id x.bal x.non (x.dat + 1 + m))))) = r := ⟨_, rfl⟩
      rw [hry] at huy hryl
      have HUY := Lib.hid huy
      have HRYL := Lib.hid hryl
      have HRY := Lib.hid hry
      clear huy hryl hry hsy hyi h3
      refine wp_region_P (.take 0 (.take 1 (.take 3 (.take 4 (.one 2 (.one 5 (.one 6 (.take 7 .done)))))))) (Below wY.drew.heap.size) (by kernel_rfl) (by kernel_rfl) (by kernel_rfl) (by decide +kernel) (Below.refl _) (fun _ _ _ => Below.trans) (by intro d v c a w h; first | (cases d <;> exact h) | exact absurd h.1 (by simp)) ?_
      have byd : Blk wY.drew w8.heap.size 23 (accC (Acc.mk x.id x.bal x.non (x.dat + 1 + m))) := byY
      have bpd : Blk wY.drew w5.heap.size 41 (H8 pp) := bpY
      have hvd : StV wY.drew v s := hvY.drew
      have fd : Below w.heap.size w wY.drew := fY.drew
      generalize wY.drew = V0 at *
      clear byY bpY hvY fY
      have fb : Below V0.heap.size V0 V0 := Below.refl _ _
      have hN := byd.lt
      have hN5 := bpd.lt
      refine wpP_load rfl (by rfl) _ _ rfl w8.heap.size 0 rfl (accC (Acc.mk x.id x.bal x.non (x.dat + 1 + m))) _ (fun w' h => (byd.below (fb.trans h) hN).range) Try.underlying23 rfl info_acc ?_
      simp only [Act.put, List.setIfInBounds_toArray, List.set_cons_zero, List.set_cons_succ]
      refine wpP_load rfl (by rfl) _ _ rfl w5.heap.size 0 rfl (H8 pp) _ (fun w' h => (bpd.below (fb.trans h) hN5).range) Try.underlying41 rfl IPP.out ?_
      simp only [Act.put, List.setIfInBounds_toArray, List.set_cons_zero, List.set_cons_succ]
      first | (refine wpP_quiet (v := ?_) rfl (by rfl) ?_ ?_; rotate_left; (· (intro w' hw'; go_simp; try with_reducible rfl)); simp only [Act.put, List.setIfInBounds_toArray, List.set_cons_zero, List.set_cons_succ]) | (refine wpP_skip rfl (by rfl) ?_; simp only [Act.put, List.setIfInBounds_toArray, List.set_cons_zero, List.set_cons_succ])
      refine wpP_load rfl (by rfl) _ _ rfl w8.heap.size 0 rfl (accC (Acc.mk x.id x.bal x.non (x.dat + 1 + m))) _ (fun w' h => (byd.below (fb.trans h) hN).range) Try.underlying23 rfl info_acc ?_
      simp only [Act.put, List.setIfInBounds_toArray, List.set_cons_zero, List.set_cons_succ]
      refine wpP_one ?_
      refine wpP_loud rfl (by rfl) ?_
      intro K hK
      go_simp
      refine (up_any (Acc.mk x.id x.bal x.non (x.dat + 1 + m)) HYW.out pp HPL.out HPA.out _).mono ?_
      rintro e Vn ⟨rfl, hb⟩
      rw [HUY.out]
      unfold hv
      refine hK.out _ _ (hb.mono fb.size) ?_
      clear hK K
      try simp only [Act.put, List.setIfInBounds_toArray, List.set_cons_zero, List.set_cons_succ]
      replace fb := fb.trans (hb.mono fb.size)
      clear hb
      refine wpP_one ?_
      refine wpP_loud rfl (by rfl) ?_
      intro K hK
      go_simp
      refine (stPut_any v s (Acc.mk x.id x.bal x.non (x.dat + 1 + m)) _ (hvd.to fb) HS.out).mono ?_
      rintro e Vn ⟨v2, rfl, hp2, hb⟩
      refine hK.out _ _ (hb.mono fb.size) ?_
      clear hK K
      try simp only [Act.put, List.setIfInBounds_toArray, List.set_cons_zero, List.set_cons_succ]
      replace fb := fb.trans (hb.mono fb.size)
      clear hb
      refine wpP_one ?_
      refine wpP_loud rfl (by rfl) ?_
      intro K hK
      go_simp
      refine (stRoot_any v2 (putS s (Acc.mk x.id x.bal x.non (x.dat + 1 + m))) _ hp2 HSY.out HWY.out).mono ?_
      rintro e Vn ⟨rfl, hb⟩
      rw [HRY.out]
      unfold hv
      refine hK.out _ _ (hb.mono fb.size) ?_
      clear hK K
      try simp only [Act.put, List.setIfInBounds_toArray, List.set_cons_zero, List.set_cons_succ]
      replace fb := fb.trans (hb.mono fb.size)
      clear hb
      have eqk := eq_self ry HRYL.out
      first | (refine wpP_quiet (v := ?_) rfl (by rfl) ?_ ?_; rotate_left; (· (intro w' hw'; go_simp; try with_reducible rfl)); simp only [Act.put, List.setIfInBounds_toArray, List.set_cons_zero, List.set_cons_succ]) | (refine wpP_skip rfl (by rfl) ?_; simp only [Act.put, List.setIfInBounds_toArray, List.set_cons_zero, List.set_cons_succ])
      clear eqk
      refine wpP_done ?_
      have byY := byd.to fb
      have hvY := hvd.to fb
      have bpY := bpd.to fb
      have fY := fd.trans (fb.mono fd.size)
      clear byd hvd bpd fd fb hN hN5 hp2
      by_cases hne : r = ry
      · subst hne
        go_wp2_with fail
        refine wp_region_P (.take 0 (.take 2 (.take 3 (.one 1 (.one 4 (.one 5 (.take 6 .done))))))) (Below Vn.drew.heap.size) (by kernel_rfl) (by kernel_rfl) (by kernel_rfl) (by decide +kernel) (Below.refl _) (fun _ _ _ => Below.trans) (by intro d v c a w h; first | (cases d <;> exact h) | exact absurd h.1 (by simp)) ?_
        have byd : Blk Vn.drew w8.heap.size 23 (accC (Acc.mk x.id x.bal x.non (x.dat + 1 + m))) := byY
        have bpd : Blk Vn.drew w5.heap.size 41 (H8 pp) := bpY
        have hvd : StV Vn.drew v s := hvY.drew
        have fd : Below w.heap.size w Vn.drew := fY.drew
        generalize Vn.drew = V0 at *
        clear byY bpY hvY fY
        have fb : Below V0.heap.size V0 V0 := Below.refl _ _
        have hN := byd.lt
        have hN5 := bpd.lt
        first | (refine wpP_quiet (v := ?_) rfl (by rfl) ?_ ?_; rotate_left; (· (intro w' hw'; go_simp; try with_reducible rfl)); simp only [Act.put, List.setIfInBounds_toArray, List.set_cons_zero, List.set_cons_succ]) | (refine wpP_skip rfl (by rfl) ?_; simp only [Act.put, List.setIfInBounds_toArray, List.set_cons_zero, List.set_cons_succ])
        first | (refine wpP_quiet (v := ?_) rfl (by rfl) ?_ ?_; rotate_left; (· (intro w' hw'; go_simp; try with_reducible rfl)); simp only [Act.put, List.setIfInBounds_toArray, List.set_cons_zero, List.set_cons_succ]) | (refine wpP_skip rfl (by rfl) ?_; simp only [Act.put, List.setIfInBounds_toArray, List.set_cons_zero, List.set_cons_succ])
        refine wpP_load rfl (by rfl) _ _ rfl w8.heap.size 0 rfl (accC (Acc.mk x.id x.bal x.non (x.dat + 1 + m))) _ (fun w' h => (byd.below (fb.trans h) hN).range) Try.underlying23 rfl info_acc ?_
        simp only [Act.put, List.setIfInBounds_toArray, List.set_cons_zero, List.set_cons_succ]
        refine wpP_one ?_
        refine wpP_loud rfl (by rfl) ?_
        intro K hK
        go_simp
        refine (stRefRoot_any v s _ (hvd.to fb) HS.out HWF.out).mono ?_
        rintro e Vn ⟨rfl, hb⟩
        rw [HR.out]
        unfold hv
        refine hK.out _ _ (hb.mono fb.size) ?_
        clear hK K
        try simp only [Act.put, List.setIfInBounds_toArray, List.set_cons_zero, List.set_cons_succ]
        replace fb := fb.trans (hb.mono fb.size)
        clear hb
        refine wpP_one ?_
        refine wpP_loud rfl (by rfl) ?_
        intro K hK
        go_simp
        refine (stPut_any v s (Acc.mk x.id x.bal x.non (x.dat + 1 + m)) _ (hvd.to fb) HS.out).mono ?_
        rintro e Vn ⟨v2, rfl, hp2, hb⟩
        refine hK.out _ _ (hb.mono fb.size) ?_
        clear hK K
        try simp only [Act.put, List.setIfInBounds_toArray, List.set_cons_zero, List.set_cons_succ]
        replace fb := fb.trans (hb.mono fb.size)
        clear hb
        refine wpP_one ?_
        refine wpP_loud rfl (by rfl) ?_
        intro K hK
        go_simp
        refine (stRefRoot_any v2 (putS s (Acc.mk x.id x.bal x.non (x.dat + 1 + m))) _ hp2 HSY.out HWY.out).mono ?_
        rintro e Vn ⟨rfl, hb⟩
        rw [HRY.out]
        unfold hv
        refine hK.out _ _ (hb.mono fb.size) ?_
        clear hK K
        try simp only [Act.put, List.setIfInBounds_toArray, List.set_cons_zero, List.set_cons_succ]
        replace fb := fb.trans (hb.mono fb.size)
        clear hb
        have eqk := eq_self r HRL.out
        first | (refine wpP_quiet (v := ?_) rfl (by rfl) ?_ ?_; rotate_left; (· (intro w' hw'; go_simp; try with_reducible rfl)); simp only [Act.put, List.setIfInBounds_toArray, List.set_cons_zero, List.set_cons_succ]) | (refine wpP_skip rfl (by rfl) ?_; simp only [Act.put, List.setIfInBounds_toArray, List.set_cons_zero, List.set_cons_succ])
        clear eqk
        refine wpP_done ?_
        go_wp2_with fail
        go_ret
        exact ⟨rfl, fd.trans (fb.mono fd.size)⟩
      · go_wp2_with fail
        refine wp_region_P (.take 0 (.take 2 (.take 3 (.one 1 (.one 4 (.one 5 (.take 6 .done))))))) (Below Vn.drew.heap.size) (by kernel_rfl) (by kernel_rfl) (by kernel_rfl) (by decide +kernel) (Below.refl _) (fun _ _ _ => Below.trans) (by intro d v c a w h; first | (cases d <;> exact h) | exact absurd h.1 (by simp)) ?_
        have byd : Blk Vn.drew w8.heap.size 23 (accC (Acc.mk x.id x.bal x.non (x.dat + 1 + m))) := byY
        have bpd : Blk Vn.drew w5.heap.size 41 (H8 pp) := bpY
        have hvd : StV Vn.drew v s := hvY.drew
        have fd : Below w.heap.size w Vn.drew := fY.drew
        generalize Vn.drew = V0 at *
        clear byY bpY hvY fY
        have fb : Below V0.heap.size V0 V0 := Below.refl _ _
        have hN := byd.lt
        have hN5 := bpd.lt
        first | (refine wpP_quiet (v := ?_) rfl (by rfl) ?_ ?_; rotate_left; (· (intro w' hw'; go_simp; try with_reducible rfl)); simp only [Act.put, List.setIfInBounds_toArray, List.set_cons_zero, List.set_cons_succ]) | (refine wpP_skip rfl (by rfl) ?_; simp only [Act.put, List.setIfInBounds_toArray, List.set_cons_zero, List.set_cons_succ])
        first | (refine wpP_quiet (v := ?_) rfl (by rfl) ?_ ?_; rotate_left; (· (intro w' hw'; go_simp; try with_reducible rfl)); simp only [Act.put, List.setIfInBounds_toArray, List.set_cons_zero, List.set_cons_succ]) | (refine wpP_skip rfl (by rfl) ?_; simp only [Act.put, List.setIfInBounds_toArray, List.set_cons_zero, List.set_cons_succ])
        refine wpP_load rfl (by rfl) _ _ rfl w8.heap.size 0 rfl (accC (Acc.mk x.id x.bal x.non (x.dat + 1 + m))) _ (fun w' h => (byd.below (fb.trans h) hN).range) Try.underlying23 rfl info_acc ?_
        simp only [Act.put, List.setIfInBounds_toArray, List.set_cons_zero, List.set_cons_succ]
        refine wpP_one ?_
        refine wpP_loud rfl (by rfl) ?_
        intro K hK
        go_simp
        refine (stRefRoot_any v s _ (hvd.to fb) HS.out HWF.out).mono ?_
        rintro e Vn ⟨rfl, hb⟩
        rw [HR.out]
        unfold hv
        refine hK.out _ _ (hb.mono fb.size) ?_
        clear hK K
        try simp only [Act.put, List.setIfInBounds_toArray, List.set_cons_zero, List.set_cons_succ]
        replace fb := fb.trans (hb.mono fb.size)
        clear hb
        refine wpP_one ?_
        refine wpP_loud rfl (by rfl) ?_
        intro K hK
        go_simp
        refine (stPut_any v s (Acc.mk x.id x.bal x.non (x.dat + 1 + m)) _ (hvd.to fb) HS.out).mono ?_
        rintro e Vn ⟨v2, rfl, hp2, hb⟩
        refine hK.out _ _ (hb.mono fb.size) ?_
        clear hK K
        try simp only [Act.put, List.setIfInBounds_toArray, List.set_cons_zero, List.set_cons_succ]
        replace fb := fb.trans (hb.mono fb.size)
        clear hb
        refine wpP_one ?_
        refine wpP_loud rfl (by rfl) ?_
        intro K hK
        go_simp
        refine (stRefRoot_any v2 (putS s (Acc.mk x.id x.bal x.non (x.dat + 1 + m))) _ hp2 HSY.out HWY.out).mono ?_
        rintro e Vn ⟨rfl, hb⟩
        rw [HRY.out]
        unfold hv
        refine hK.out _ _ (hb.mono fb.size) ?_
        clear hK K
        try simp only [Act.put, List.setIfInBounds_toArray, List.set_cons_zero, List.set_cons_succ]
        replace fb := fb.trans (hb.mono fb.size)
        clear hb
        have eqk := eq_other r ry HRL.out HRYL.out hne
        first | (refine wpP_quiet (v := ?_) rfl (by rfl) ?_ ?_; rotate_left; (· (intro w' hw'; go_simp; try with_reducible rfl)); simp only [Act.put, List.setIfInBounds_toArray, List.set_cons_zero, List.set_cons_succ]) | (refine wpP_skip rfl (by rfl) ?_; simp only [Act.put, List.setIfInBounds_toArray, List.set_cons_zero, List.set_cons_succ])
        clear eqk
        refine wpP_done ?_
        have byY := byd.to fb
        have hvY := hvd.to fb
        have bpY := bpd.to fb
        have fY := fd.trans (fb.mono fd.size)
        obtain ⟨-, k0, k1, k2, k3⟩ := acc_cells byY
        go_wp2_with (first
          | (refine wpl_load_fld (by rfl) _ _ rfl w5.heap.size 0 rfl (H8 pp) _ bpY.range Try.underlying41 rfl IPP.out ?_))
        refine (up_any (Acc.mk x.id x.bal x.non (x.dat + 1 + m)) HYW.out pp HPL.out HPA.out Vn).mono ?_
        rintro e u1 ⟨rfl, hu1⟩
        rw [HUY.out]
        have hvu := hvY.to hu1
        have fu := fY.trans (hu1.mono fY.size)
        clear k0 k1 k2 k3
        go_wp2_with fail
        refine (stRoot_any v s u1 hvu HS.out HWF.out).mono ?_
        rintro e u2 ⟨rfl, hu2⟩
        rw [HR.out]
        have eqr := eq_other ry r HRYL.out HRL.out (fun e => hne e.symm)
        unfold hv
        go_wp2_with fail
        go_ret
        exact ⟨rfl, fu.trans (hu2.mono fu.size)⟩
    · refine wpP_loud rfl (by rfl) ?_
      intro K hK
      go_simp
      refine (within_capstanlaw7 j 9 _ (by omega) (by omega) jlo jhi).mono ?_
      rintro e Vn ⟨rfl, rfl⟩
      rw [hm9]
      refine hK.out _ _ trivial ?_
      clear hK K
      try simp only [Act.put, List.setIfInBounds_toArray, List.set_cons_zero, List.set_cons_succ]
      refine wpP_one ?_
      refine wpP_loud rfl (by rfl) ?_
      intro K hK
      go_simp
      refine hK.out _ _ trivial ?_
      clear hK K
      try simp only [Act.put, List.setIfInBounds_toArray, List.set_cons_zero, List.set_cons_succ]
      first | (refine wpP_quiet (v := ?_) rfl (by rfl) ?_ ?_; rotate_left; (· (intro w' hw'; go_simp; try with_reducible rfl)); simp only [Act.put, List.setIfInBounds_toArray, List.set_cons_zero, List.set_cons_succ]) | (refine wpP_skip rfl (by rfl) ?_; simp only [Act.put, List.setIfInBounds_toArray, List.set_cons_zero, List.set_cons_succ])
      first | (refine wpP_quiet (v := ?_) rfl (by rfl) ?_ ?_; rotate_left; (· (intro w' hw'; go_simp; try with_reducible rfl)); simp only [Act.put, List.setIfInBounds_toArray, List.set_cons_zero, List.set_cons_succ]) | (refine wpP_skip rfl (by rfl) ?_; simp only [Act.put, List.setIfInBounds_toArray, List.set_cons_zero, List.set_cons_succ])
      first | (refine wpP_quiet (v := ?_) rfl (by rfl) ?_ ?_; rotate_left; (· (intro w' hw'; go_simp; try with_reducible rfl)); simp only [Act.put, List.setIfInBounds_toArray, List.set_cons_zero, List.set_cons_succ]) | (refine wpP_skip rfl (by rfl) ?_; simp only [Act.put, List.setIfInBounds_toArray, List.set_cons_zero, List.set_cons_succ])
      refine wpP_one ?_
      refine wpP_loud rfl (by rfl) ?_
      intro K hK
      go_simp
      refine hK.out _ _ trivial ?_
      clear hK K
      try simp only [Act.put, List.setIfInBounds_toArray, List.set_cons_zero, List.set_cons_succ]
      refine wpP_done ?_
      have hY : Below w8.heap.size w8 (u9.setCell ⟨w8.heap.size, 3, none⟩ (.int .i64 (x.dat + 1 + m))) := h9.trans (below_but (RBut.setC _ _ _ _) (Nat.le_refl _) h9.size)
      have byY : Blk (u9.setCell ⟨w8.heap.size, 3, none⟩ (.int .i64 (x.dat + 1 + m))) w8.heap.size 23 (accC (Acc.mk x.id x.bal x.non (x.dat + 1 + m))) := by9.set_ 3 _
      generalize u9.setCell ⟨w8.heap.size, 3, none⟩ (.int .i64 (x.dat + 1 + m)) = wY at *
      have hvY := hv8.to hY
      have bpY := bp8.to hY
      have fY := f8.trans (hY.mono hf8)
      clear h9 by9 hv8 bp8 f8 d0 d1 d2 d3 k0 k1 k2 k3 hY hm9 hj wj wd wm
      go_wp2_with fail
      have hyi : ((Acc.mk x.id x.bal x.non (x.dat + 1 + m))).id = i := HXI.out
      have HYW : Hid (Acc.wf ((Acc.mk x.id x.bal x.non (x.dat + 1 + m)))) := (show Acc.wf _ from ⟨by have := HI.out; rw [hyi]; omega, by show _ ∧ _; simp only []; omega, by show _ ∧ _; simp only []; omega, by show _ ∧ _; simp only []; omega⟩)
      have hsy := HS.out.put (a := (Acc.mk x.id x.bal x.non (x.dat + 1 + m))) (by rw [hyi]; exact HI.out.1) (by rw [hyi]; exact HI.out.2)
      have HSY := Lib.hid hsy
      have HWY : Hid (∀ u ∈ putS s ((Acc.mk x.id x.bal x.non (x.dat + 1 + m))), u.wf) := (show ∀ u ∈ putS s ((Acc.mk x.id x.bal x.non (x.dat + 1 + m))), u.wf from by
        intro x' hx'
        rcases (mem_put s _ HS.out x').1 hx' with ⟨h, _⟩ | ⟨h, _⟩
        · rw [h]; exact HYW.out
        · exact HWF.out x' h)
      have huy := up_own HS.out (a := (Acc.mk x.id x.bal x.non (x.dat + 1 + m))) (by rw [hyi]; exact HI.out)
      rw [show proveS s ((Acc.mk x.id x.bal x.non (x.dat + 1 + m))).id = pp from by rw [show ((Acc.mk x.id x.bal x.non (x.dat + 1 + m))).id = i from HXI.out]; exact HPP.out] at huy
      have hryl := root_len (putS s ((Acc.mk x.id x.bal x.non (x.dat + 1 + m))))
      obtain ⟨ry, hry⟩ : ∃ r, rootJ 8 (leavesL (putS s ((Acc.mk x.id x.bal x.non (x.dat + 1 + m))))) = r := ⟨_, rfl⟩
      rw [hry] at huy hryl
      have HUY := Lib.hid huy
      have HRYL := Lib.hid hryl
      have HRY := Lib.hid hry
      clear huy hryl hry hsy hyi h3
      refine wp_region_P (.take 0 (.take 1 (.take 3 (.take 4 (.one 2 (.one 5 (.one 6 (.take 7 .done)))))))) (Below wY.drew.heap.size) (by kernel_rfl) (by kernel_rfl) (by kernel_rfl) (by decide +kernel) (Below.refl _) (fun _ _ _ => Below.trans) (by intro d v c a w h; first | (cases d <;> exact h) | exact absurd h.1 (by simp)) ?_
      have byd : Blk wY.drew w8.heap.size 23 (accC (Acc.mk x.id x.bal x.non (x.dat + 1 + m))) := byY
      have bpd : Blk wY.drew w5.heap.size 41 (H8 pp) := bpY
      have hvd : StV wY.drew v s := hvY.drew
      have fd : Below w.heap.size w wY.drew := fY.drew
      generalize wY.drew = V0 at *
      clear byY bpY hvY fY
      have fb : Below V0.heap.size V0 V0 := Below.refl _ _
      have hN := byd.lt
      have hN5 := bpd.lt
      refine wpP_load rfl (by rfl) _ _ rfl w8.heap.size 0 rfl (accC (Acc.mk x.id x.bal x.non (x.dat + 1 + m))) _ (fun w' h => (byd.below (fb.trans h) hN).range) Try.underlying23 rfl info_acc ?_
      simp only [Act.put, List.setIfInBounds_toArray, List.set_cons_zero, List.set_cons_succ]
      refine wpP_load rfl (by rfl) _ _ rfl w5.heap.size 0 rfl (H8 pp) _ (fun w' h => (bpd.below (fb.trans h) hN5).range) Try.underlying41 rfl IPP.out ?_
      simp only [Act.put, List.setIfInBounds_toArray, List.set_cons_zero, List.set_cons_succ]
      first | (refine wpP_quiet (v := ?_) rfl (by rfl) ?_ ?_; rotate_left; (· (intro w' hw'; go_simp; try with_reducible rfl)); simp only [Act.put, List.setIfInBounds_toArray, List.set_cons_zero, List.set_cons_succ]) | (refine wpP_skip rfl (by rfl) ?_; simp only [Act.put, List.setIfInBounds_toArray, List.set_cons_zero, List.set_cons_succ])
      refine wpP_load rfl (by rfl) _ _ rfl w8.heap.size 0 rfl (accC (Acc.mk x.id x.bal x.non (x.dat + 1 + m))) _ (fun w' h => (byd.below (fb.trans h) hN).range) Try.underlying23 rfl info_acc ?_
      simp only [Act.put, List.setIfInBounds_toArray, List.set_cons_zero, List.set_cons_succ]
      refine wpP_one ?_
      refine wpP_loud rfl (by rfl) ?_
      intro K hK
      go_simp
      refine (up_any (Acc.mk x.id x.bal x.non (x.dat + 1 + m)) HYW.out pp HPL.out HPA.out _).mono ?_
      rintro e Vn ⟨rfl, hb⟩
      rw [HUY.out]
      unfold hv
      refine hK.out _ _ (hb.mono fb.size) ?_
      clear hK K
      try simp only [Act.put, List.setIfInBounds_toArray, List.set_cons_zero, List.set_cons_succ]
      replace fb := fb.trans (hb.mono fb.size)
      clear hb
      refine wpP_one ?_
      refine wpP_loud rfl (by rfl) ?_
      intro K hK
      go_simp
      refine (stPut_any v s (Acc.mk x.id x.bal x.non (x.dat + 1 + m)) _ (hvd.to fb) HS.out).mono ?_
      rintro e Vn ⟨v2, rfl, hp2, hb⟩
      refine hK.out _ _ (hb.mono fb.size) ?_
      clear hK K
      try simp only [Act.put, List.setIfInBounds_toArray, List.set_cons_zero, List.set_cons_succ]
      replace fb := fb.trans (hb.mono fb.size)
      clear hb
      refine wpP_one ?_
      refine wpP_loud rfl (by rfl) ?_
      intro K hK
      go_simp
      refine (stRoot_any v2 (putS s (Acc.mk x.id x.bal x.non (x.dat + 1 + m))) _ hp2 HSY.out HWY.out).mono ?_
      rintro e Vn ⟨rfl, hb⟩
      rw [HRY.out]
      unfold hv
      refine hK.out _ _ (hb.mono fb.size) ?_
      clear hK K
      try simp only [Act.put, List.setIfInBounds_toArray, List.set_cons_zero, List.set_cons_succ]
      replace fb := fb.trans (hb.mono fb.size)
      clear hb
      have eqk := eq_self ry HRYL.out
      first | (refine wpP_quiet (v := ?_) rfl (by rfl) ?_ ?_; rotate_left; (· (intro w' hw'; go_simp; try with_reducible rfl)); simp only [Act.put, List.setIfInBounds_toArray, List.set_cons_zero, List.set_cons_succ]) | (refine wpP_skip rfl (by rfl) ?_; simp only [Act.put, List.setIfInBounds_toArray, List.set_cons_zero, List.set_cons_succ])
      clear eqk
      refine wpP_done ?_
      have byY := byd.to fb
      have hvY := hvd.to fb
      have bpY := bpd.to fb
      have fY := fd.trans (fb.mono fd.size)
      clear byd hvd bpd fd fb hN hN5 hp2
      by_cases hne : r = ry
      · subst hne
        go_wp2_with fail
        refine wp_region_P (.take 0 (.take 2 (.take 3 (.one 1 (.one 4 (.one 5 (.take 6 .done))))))) (Below Vn.drew.heap.size) (by kernel_rfl) (by kernel_rfl) (by kernel_rfl) (by decide +kernel) (Below.refl _) (fun _ _ _ => Below.trans) (by intro d v c a w h; first | (cases d <;> exact h) | exact absurd h.1 (by simp)) ?_
        have byd : Blk Vn.drew w8.heap.size 23 (accC (Acc.mk x.id x.bal x.non (x.dat + 1 + m))) := byY
        have bpd : Blk Vn.drew w5.heap.size 41 (H8 pp) := bpY
        have hvd : StV Vn.drew v s := hvY.drew
        have fd : Below w.heap.size w Vn.drew := fY.drew
        generalize Vn.drew = V0 at *
        clear byY bpY hvY fY
        have fb : Below V0.heap.size V0 V0 := Below.refl _ _
        have hN := byd.lt
        have hN5 := bpd.lt
        first | (refine wpP_quiet (v := ?_) rfl (by rfl) ?_ ?_; rotate_left; (· (intro w' hw'; go_simp; try with_reducible rfl)); simp only [Act.put, List.setIfInBounds_toArray, List.set_cons_zero, List.set_cons_succ]) | (refine wpP_skip rfl (by rfl) ?_; simp only [Act.put, List.setIfInBounds_toArray, List.set_cons_zero, List.set_cons_succ])
        first | (refine wpP_quiet (v := ?_) rfl (by rfl) ?_ ?_; rotate_left; (· (intro w' hw'; go_simp; try with_reducible rfl)); simp only [Act.put, List.setIfInBounds_toArray, List.set_cons_zero, List.set_cons_succ]) | (refine wpP_skip rfl (by rfl) ?_; simp only [Act.put, List.setIfInBounds_toArray, List.set_cons_zero, List.set_cons_succ])
        refine wpP_load rfl (by rfl) _ _ rfl w8.heap.size 0 rfl (accC (Acc.mk x.id x.bal x.non (x.dat + 1 + m))) _ (fun w' h => (byd.below (fb.trans h) hN).range) Try.underlying23 rfl info_acc ?_
        simp only [Act.put, List.setIfInBounds_toArray, List.set_cons_zero, List.set_cons_succ]
        refine wpP_one ?_
        refine wpP_loud rfl (by rfl) ?_
        intro K hK
        go_simp
        refine (stRefRoot_any v s _ (hvd.to fb) HS.out HWF.out).mono ?_
        rintro e Vn ⟨rfl, hb⟩
        rw [HR.out]
        unfold hv
        refine hK.out _ _ (hb.mono fb.size) ?_
        clear hK K
        try simp only [Act.put, List.setIfInBounds_toArray, List.set_cons_zero, List.set_cons_succ]
        replace fb := fb.trans (hb.mono fb.size)
        clear hb
        refine wpP_one ?_
        refine wpP_loud rfl (by rfl) ?_
        intro K hK
        go_simp
        refine (stPut_any v s (Acc.mk x.id x.bal x.non (x.dat + 1 + m)) _ (hvd.to fb) HS.out).mono ?_
        rintro e Vn ⟨v2, rfl, hp2, hb⟩
        refine hK.out _ _ (hb.mono fb.size) ?_
        clear hK K
        try simp only [Act.put, List.setIfInBounds_toArray, List.set_cons_zero, List.set_cons_succ]
        replace fb := fb.trans (hb.mono fb.size)
        clear hb
        refine wpP_one ?_
        refine wpP_loud rfl (by rfl) ?_
        intro K hK
        go_simp
        refine (stRefRoot_any v2 (putS s (Acc.mk x.id x.bal x.non (x.dat + 1 + m))) _ hp2 HSY.out HWY.out).mono ?_
        rintro e Vn ⟨rfl, hb⟩
        rw [HRY.out]
        unfold hv
        refine hK.out _ _ (hb.mono fb.size) ?_
        clear hK K
        try simp only [Act.put, List.setIfInBounds_toArray, List.set_cons_zero, List.set_cons_succ]
        replace fb := fb.trans (hb.mono fb.size)
        clear hb
        have eqk := eq_self r HRL.out
        first | (refine wpP_quiet (v := ?_) rfl (by rfl) ?_ ?_; rotate_left; (· (intro w' hw'; go_simp; try with_reducible rfl)); simp only [Act.put, List.setIfInBounds_toArray, List.set_cons_zero, List.set_cons_succ]) | (refine wpP_skip rfl (by rfl) ?_; simp only [Act.put, List.setIfInBounds_toArray, List.set_cons_zero, List.set_cons_succ])
        clear eqk
        refine wpP_done ?_
        go_wp2_with fail
        go_ret
        exact ⟨rfl, fd.trans (fb.mono fd.size)⟩
      · go_wp2_with fail
        refine wp_region_P (.take 0 (.take 2 (.take 3 (.one 1 (.one 4 (.one 5 (.take 6 .done))))))) (Below Vn.drew.heap.size) (by kernel_rfl) (by kernel_rfl) (by kernel_rfl) (by decide +kernel) (Below.refl _) (fun _ _ _ => Below.trans) (by intro d v c a w h; first | (cases d <;> exact h) | exact absurd h.1 (by simp)) ?_
        have byd : Blk Vn.drew w8.heap.size 23 (accC (Acc.mk x.id x.bal x.non (x.dat + 1 + m))) := byY
        have bpd : Blk Vn.drew w5.heap.size 41 (H8 pp) := bpY
        have hvd : StV Vn.drew v s := hvY.drew
        have fd : Below w.heap.size w Vn.drew := fY.drew
        generalize Vn.drew = V0 at *
        clear byY bpY hvY fY
        have fb : Below V0.heap.size V0 V0 := Below.refl _ _
        have hN := byd.lt
        have hN5 := bpd.lt
        first | (refine wpP_quiet (v := ?_) rfl (by rfl) ?_ ?_; rotate_left; (· (intro w' hw'; go_simp; try with_reducible rfl)); simp only [Act.put, List.setIfInBounds_toArray, List.set_cons_zero, List.set_cons_succ]) | (refine wpP_skip rfl (by rfl) ?_; simp only [Act.put, List.setIfInBounds_toArray, List.set_cons_zero, List.set_cons_succ])
        first | (refine wpP_quiet (v := ?_) rfl (by rfl) ?_ ?_; rotate_left; (· (intro w' hw'; go_simp; try with_reducible rfl)); simp only [Act.put, List.setIfInBounds_toArray, List.set_cons_zero, List.set_cons_succ]) | (refine wpP_skip rfl (by rfl) ?_; simp only [Act.put, List.setIfInBounds_toArray, List.set_cons_zero, List.set_cons_succ])
        refine wpP_load rfl (by rfl) _ _ rfl w8.heap.size 0 rfl (accC (Acc.mk x.id x.bal x.non (x.dat + 1 + m))) _ (fun w' h => (byd.below (fb.trans h) hN).range) Try.underlying23 rfl info_acc ?_
        simp only [Act.put, List.setIfInBounds_toArray, List.set_cons_zero, List.set_cons_succ]
        refine wpP_one ?_
        refine wpP_loud rfl (by rfl) ?_
        intro K hK
        go_simp
        refine (stRefRoot_any v s _ (hvd.to fb) HS.out HWF.out).mono ?_
        rintro e Vn ⟨rfl, hb⟩
        rw [HR.out]
        unfold hv
        refine hK.out _ _ (hb.mono fb.size) ?_
        clear hK K
        try simp only [Act.put, List.setIfInBounds_toArray, List.set_cons_zero, List.set_cons_succ]
        replace fb := fb.trans (hb.mono fb.size)
        clear hb
        refine wpP_one ?_
        refine wpP_loud rfl (by rfl) ?_
        intro K hK
        go_simp
        refine (stPut_any v s (Acc.mk x.id x.bal x.non (x.dat + 1 + m)) _ (hvd.to fb) HS.out).mono ?_
        rintro e Vn ⟨v2, rfl, hp2, hb⟩
        refine hK.out _ _ (hb.mono fb.size) ?_
        clear hK K
        try simp only [Act.put, List.setIfInBounds_toArray, List.set_cons_zero, List.set_cons_succ]
        replace fb := fb.trans (hb.mono fb.size)
        clear hb
        refine wpP_one ?_
        refine wpP_loud rfl (by rfl) ?_
        intro K hK
        go_simp
        refine (stRefRoot_any v2 (putS s (Acc.mk x.id x.bal x.non (x.dat + 1 + m))) _ hp2 HSY.out HWY.out).mono ?_
        rintro e Vn ⟨rfl, hb⟩
        rw [HRY.out]
        unfold hv
        refine hK.out _ _ (hb.mono fb.size) ?_
        clear hK K
        try simp only [Act.put, List.setIfInBounds_toArray, List.set_cons_zero, List.set_cons_succ]
        replace fb := fb.trans (hb.mono fb.size)
        clear hb
        have eqk := eq_other r ry HRL.out HRYL.out hne
        first | (refine wpP_quiet (v := ?_) rfl (by rfl) ?_ ?_; rotate_left; (· (intro w' hw'; go_simp; try with_reducible rfl)); simp only [Act.put, List.setIfInBounds_toArray, List.set_cons_zero, List.set_cons_succ]) | (refine wpP_skip rfl (by rfl) ?_; simp only [Act.put, List.setIfInBounds_toArray, List.set_cons_zero, List.set_cons_succ])
        clear eqk
        refine wpP_done ?_
        have byY := byd.to fb
        have hvY := hvd.to fb
        have bpY := bpd.to fb
        have fY := fd.trans (fb.mono fd.size)
        obtain ⟨-, k0, k1, k2, k3⟩ := acc_cells byY
        go_wp2_with (first
          | (refine wpl_load_fld (by rfl) _ _ rfl w5.heap.size 0 rfl (H8 pp) _ bpY.range Try.underlying41 rfl IPP.out ?_))
        refine (up_any (Acc.mk x.id x.bal x.non (x.dat + 1 + m)) HYW.out pp HPL.out HPA.out Vn).mono ?_
        rintro e u1 ⟨rfl, hu1⟩
        rw [HUY.out]
        have hvu := hvY.to hu1
        have fu := fY.trans (hu1.mono fY.size)
        clear k0 k1 k2 k3
        go_wp2_with fail
        refine (stRoot_any v s u1 hvu HS.out HWF.out).mono ?_
        rintro e u2 ⟨rfl, hu2⟩
        rw [HR.out]
        have eqr := eq_other ry r HRYL.out HRL.out (fun e => hne e.symm)
        unfold hv
        go_wp2_with fail
        go_ret
        exact ⟨rfl, fu.trans (hu2.mono fu.size)⟩
end Go.Proofs.Ytakebmpnbdlcoaa
