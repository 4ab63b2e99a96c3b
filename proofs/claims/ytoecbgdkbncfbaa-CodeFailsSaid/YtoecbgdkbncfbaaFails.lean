/- The walk of capstanlaw1.CodeFails. -/
import Derived.Test.YtoecbgdkbncfbaaRead5
namespace Go.Proofs.Ytoecbgdkbncfbaa
open Go.RowKit
set_option maxHeartbeats 1000000 in
theorem codeFails_walk (w : World) (A : Option Addr) (n c : Nat) (bs : List UInt8) (hnc : n ≤ c) (hc : c ≤ maxLen) (sl : Sl w 1 A n (B8 bs)) (e : Int) (e_lo : -9223372036854775808 ≤ e) (e_hi : e < 9223372036854775808) (f : Int) (f_lo : -9223372036854775808 ≤ f) (f_hi : f < 9223372036854775808) :
    Calls Try.prog 9 #[.slice A n c, .int .i64 e, .int .i64 f] w (RB true w) := by
  clear hnc hc
  by_cases h100 : (100 : Int) < n
  · go_enter Try.func9, Try.ntmps9
    go_wp2_with fail
    refine (known_any _).mono ?_
    rintro e w1 ⟨rfl, hb1⟩
    go_wp2
    go_ret
    exact ⟨rfl, hb1⟩
  · have hn : n ≤ 100 := by omega
    have hn8 := sl.len8
    obtain ⟨E, hE, hE1, hE2⟩ : ∃ E : Int, e % 22 = E ∧ 0 ≤ E ∧ E < 22 := ⟨_, rfl, by omega, by omega⟩
    obtain ⟨F, hF, hF1, hF2⟩ : ∃ F : Int, f % 22 = F ∧ 0 ≤ F ∧ F < 22 := ⟨_, rfl, by omega, by omega⟩
    have HE := Lib.hid hE
    have HF := Lib.hid hF
    have he0 : 1 + E ≠ 0 := by omega
    have S1 : Hid (stFail (bs, 0) 0 = (bs, 0)) := (by show _ = _; rfl)
    have S2 : Hid (stFail (bs, 0) (1 + E) = (bs, 1 + E)) := (by show _ = _; rfl)
    have S3 : Hid (stFail (bs, 1 + E) (1 + F) = (bs, 1 + E)) := (by show _ = _; simp [stFail, he0])
    have S4 : Hid (stInt (bs, 1 + E) = (0, (bs, 1 + E))) := (by show _ = _; simp [stInt, he0])
    have S5 : Hid (stText (bs, 1 + E) = ([], (bs, 1 + E))) := (by show _ = _; simp [stText, he0])
    have S6 : Hid (stHash (bs, 1 + E) = (zero32, (bs, 1 + E))) := (by show _ = _; simp [stHash, he0])
    have S7 : Hid (stEnd (bs, 1 + E) = 1 + E) := (by show _ = _; simp [stEnd, he0])
    obtain ⟨v, S8, hvv⟩ : ∃ v : Int, Hid (stEnd (bs, 0) = v) ∧ ((v == 0) == ((n : Int) == 0)) = true := by
      refine ⟨endOf n, (by show _ = _; rw [hn8]; rfl), ?_⟩
      unfold endOf
      by_cases h : n = 0 <;> simp [h]
    clear hE hF he0 hn8
    go_enter Try.func9, Try.ntmps9
    go_wp2_with fail
    refine (known_any _).mono ?_
    rintro en w1 ⟨rfl, hb1⟩
    go_wp2_with fail
    refine (within_any e 22 _ (by omega) (by omega) e_lo e_hi).mono ?_
    rintro en w' ⟨rfl, rfl⟩
    rw [HE.out]
    go_wp2_with fail
    refine (within_any f 22 _ (by omega) (by omega) f_lo f_hi).mono ?_
    rintro en w' ⟨rfl, rfl⟩
    rw [HF.out]
    go_wp2_with fail
    refine (new_any A n c bs _ (sl.to hb1) (by omega)).mono ?_
    rintro en w2 ⟨p, rfl, hp, hr2, hb2⟩
    have fin2 := hb1.trans (hb2.mono hb1.size)
    have hpw : w.heap.size ≤ p := Nat.le_trans hb1.size hp
    go_wp2_with fail
    refine (rFail_any p (bs, 0) 0 _ hr2).mono ?_
    rw [S1.out]
    rintro en w3 ⟨rfl, hr3, hb3⟩
    have fin3 := fin2.trans (below_but hb3 hpw fin2.size)
    go_wp2_with fail
    refine (rEnd_any p (bs, 0) _ hr3).mono ?_
    rw [S8.out]
    rintro en w' ⟨rfl, rfl⟩
    go_wp2_with fail
    refine (rFail_any p (bs, 0) (1 + E) _ hr3).mono ?_
    rw [S2.out]
    rintro en w4 ⟨rfl, hr4, hb4⟩
    have fin4 := fin3.trans (below_but hb4 hpw fin3.size)
    go_wp2_with fail
    refine (rFail_any p (bs, 1 + E) (1 + F) _ hr4).mono ?_
    rw [S3.out]
    rintro en w5 ⟨rfl, hr5, hb5⟩
    have fin5 := fin4.trans (below_but hb5 hpw fin4.size)
    go_wp2_with fail
    refine (rInt_any p (bs, 1 + E) _ hr5).mono ?_
    rw [S4.out]
    rintro en w6 ⟨rfl, hr6, hb6⟩
    have fin6 := fin5.trans (below_but hb6 hpw fin5.size)
    go_wp2_with fail
    refine (rText_any p (bs, 1 + E) _ hr6).mono ?_
    rw [S5.out]
    rintro en w7 ⟨A7, n7, c7, rfl, ho7, hr7, hb7⟩
    obtain rfl : n7 = 0 := ho7.len8
    have fin7 := fin6.trans (below_but hb7 hpw fin6.size)
    go_wp2_with fail
    refine (rHash_any p (bs, 1 + E) _ hr7).mono ?_
    rw [S6.out]
    rintro en w8 ⟨rfl, hr8, hb8⟩
    have fin8 := fin7.trans (below_but hb8 hpw fin7.size)
    unfold hv
    dsimp only at hr8 ⊢
    go_wp2_with (first
      | (refine wpl_store_new rfl _ _ _ rfl _ _ (B8 zero32) rfl rfl rfl (info_hash rfl) zero32_one ?_; intro w9 bz9 hb9))
    have he0 : 1 + E ≠ 0 := by omega
    have hr9 := hr8.keepE he0 (hb9.block p hr8.lt)
    have fin9 := fin8.trans (hb9.mono fin8.size)
    refine (new_any none 0 0 [] _ Sl.nil_ (by omega)).mono ?_
    rintro en w10 ⟨q, rfl, hq, hx10, hb10⟩
    have hr10 := hr9.keepE he0 (hb10.block p hr9.lt)
    have bz10 := bz9.to hb10
    have fin10 := fin9.trans (hb10.mono fin9.size)
    have hqw : w.heap.size ≤ q := Nat.le_trans fin9.size hq
    have hqp : p ≠ q := by have := hr9.lt; omega
    have hqz : w8.heap.size ≠ q := by have := bz9.lt; omega
    go_wp2_with fail
    refine (rInt_any q ([], 0) _ hx10).mono ?_
    rw [stInt_cut (dec_nil 0 0)]
    rintro en w11 ⟨rfl, hx11, hb11⟩
    have hr11 := hr10.keepE he0 (hb11.block p hr10.lt (fun h => by injection h; omega))
    have bz11 := bz10.but hb11 (fun h => by injection h; omega)
    have fin11 := fin10.trans (below_but hb11 hqw fin10.size)
    go_wp2_with fail
    refine (rFail_any q ([], 8) (1 + F) _ hx11).mono ?_
    rw [show stFail ([], 8) (1 + F) = ([], 8) from rfl]
    rintro en w12 ⟨rfl, hx12, hb12⟩
    have hr12 := hr11.keepE he0 (hb12.block p hr11.lt (fun h => by injection h; omega))
    have bz12 := bz11.but hb12 (fun h => by injection h; omega)
    have fin12 := fin11.trans (below_but hb12 hqw fin11.size)
    have hz := eq_zero zero32 rfl
    rw [show decide (zero32 = zero32) = true from by simp] at hz
    clear he0
    go_wp2_with fail
    refine (rEnd_any p (bs, 1 + E) _ hr12).mono ?_
    rw [S7.out]
    rintro en w' ⟨rfl, rfl⟩
    go_wp2_with (first
      | (refine wpl_load_blk' (by rfl) _ _ rfl _ rfl _ _ _ bz12 Try.underlying29 rfl (info_hash rfl) ?_))
    refine (rEnd_any q ([], 8) _ hx12).mono ?_
    rw [show stEnd ([], 8) = 8 from rfl]
    rintro en w' ⟨rfl, rfl⟩
    go_wp2
    go_ret
    exact ⟨rfl, fin12⟩
end Go.Proofs.Ytoecbgdkbncfbaa
