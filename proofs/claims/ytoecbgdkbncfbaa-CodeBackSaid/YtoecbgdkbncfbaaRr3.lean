/- Walks: the document's reader: Text. -/
import Derived.Test.YtoecbgdkbncfbaaRr2
namespace Go.Proofs.Ytoecbgdkbncfbaa
open Go.RowKit
def RrText (H : Nat) (w : World) (p : Nat) (out : List UInt8) (s : List UInt8 × Int) (en : Ending) (w' : World) : Prop :=
  ∃ A n c, en = .returned (.slice A n c) ∧ Own w' w.heap.size 5 1 A n c (B8 out) ∧ Rr H w' p s.1 s.2 ∧ RBut (some p) w w'
theorem stText_err {s : List UInt8 × Int} (h : (stInt s).2.2 ≠ 0) : stText s = ([], (stInt s).2) := by
  unfold stText stInt at *
  split
  · split <;> simp_all
  · simp_all
theorem stText_ok {s : List UInt8 × Int} (h : (stInt s).2.2 = 0) : stText s = if (stInt s).1 < 0 ∨ 65535 < (stInt s).1 then ([], ([], 4)) else if (stInt s).2.1.length < (stInt s).1.toNat then ([], ([], 8)) else ((stInt s).2.1.take (stInt s).1.toNat, ((stInt s).2.1.drop (stInt s).1.toNat, 0)) := by
  unfold stText stInt at *
  split
  · split <;> simp_all
  · simp_all
set_option maxRecDepth 100000 in
set_option maxHeartbeats 2000000 in
theorem rrText_any (H p : Nat) (s : List UInt8 × Int) (w : World) (hr : Rr H w p s.1 s.2) :
    Calls Try.prog 26 #[.pointer (some ⟨p, 0, none⟩)] w (RrText H w p (stText s).1 (stText s).2) := by
  have hI := rrInt_any H p s w hr
  have hE := @stText_err s
  have hO := @stText_ok s
  generalize stText s = T at *
  generalize stInt s = S at *
  obtain ⟨v, l, e⟩ := S
  dsimp only at hI hE hO
  have HE := Lib.hid hE
  have HO := Lib.hid hO
  have HI := Lib.hid hI
  have hpw : p < w.heap.size := by obtain ⟨_, _, _, _, _, h, _⟩ := hr; exact h.lt
  clear hE hO hI hr
  go_enter Try.func26, Try.ntmps26
  go_wp2_with fail
  refine HI.out.mono ?_
  rintro en w1 ⟨rfl, ⟨A, n, c, P, bs, hc, hnc, hcm, hs, hAH, hP, hx⟩, hb1⟩
  have hA := hAH.away
  dsimp only at hc hx
  have hs1 := hb1.size
  by_cases h0 : e = 0
  · subst h0
    have hl := hx rfl
    have HL := Lib.hid hl
    have ht := HO.out rfl
    clear hx HE HO HI hl
    have c2 := hc.c2
    have fz := hc.fz 2
    by_cases hv : v < 0 ∨ 65535 < v
    · rw [if_pos hv] at ht
      have HT := Lib.hid ht
      have hs4 := hc.set2 4
      have sws := hs.but2 (RBut.setC w1 p 2 (.int .i64 4)) (away_ne hA)
      have hb4 := RBut.trans_ _ _ _ _ hb1 (RBut.setC w1 p 2 (.int .i64 4))
      clear ht
      have tv : v < 0 ∨ ¬ v < 0 ∧ 65535 < v := by omega
      clear hv
      rcases tv with tv | ⟨tv, tv2⟩
      all_goals
        go_wp2_with fail
        refine wp_region_C [(0, false), (1, false), (2, false), (3, false), (4, false), (5, false), (6, true), (7, true), (8, true), (9, true), (10, true), (11, true), (12, true), (13, true), (14, true), (15, true), (16, false), (17, false), (18, false)] RBel (by kernel_rfl) (by kernel_rfl) (by kernel_rfl) (by decide) RBel.refl_ RBel.trans_ (by intro d v c a w h; cases d <;> exact h) ?_
        have hcd := hs4.drew
        have swd := sws.drew
        have hbd := RBut.trans_ _ _ _ _ hb4 (RBut.of_below (Below.refl _ _).drew)
        generalize (w1.setCell ⟨p, 2, none⟩ (.int .i64 4)).drew = wd at *
        have d2 := hcd.c2
        repeat (first | (refine wpC_quiet (v := ?_) rfl (by rfl) ?_ ?_; rotate_left; (· (intro w' hw'; go_simp; try with_reducible rfl)); simp only [Act.put, List.setIfInBounds_toArray, List.set_cons_zero, List.set_cons_succ]) | (refine wpC_val (v := ?_) (RBel.refl_) rfl (by rfl) ?_ ?_; rotate_left; (· (go_simp; try with_reducible rfl)); simp only [Act.put, List.setIfInBounds_toArray, List.set_cons_zero, List.set_cons_succ]) | (refine wpC_skip rfl (by rfl) ?_; simp only [Act.put, List.setIfInBounds_toArray, List.set_cons_zero, List.set_cons_succ]) | (refine wpC_skip' (RBel.refl_) rfl (by rfl) ?_; simp only [Act.put, List.setIfInBounds_toArray, List.set_cons_zero, List.set_cons_succ]))
        refine wpC_nil ?_
        go_wp2_with fail
        go_ret
        rw [HT.out]
        exact ⟨none, 0, 0, rfl, Own.nil_, Rr.err hcd hnc hcm swd hAH hP (by decide), hbd⟩
    · rw [if_neg hv] at ht
      obtain ⟨m, hm⟩ : ∃ m : Nat, v = (m : Int) := ⟨v.toNat, by omega⟩
      subst hm
      have tv1 : ¬ (m : Int) < 0 := by omega
      have tv2 : ¬ (65535 : Int) < (m : Int) := by omega
      have hm6 : m ≤ 65535 := by omega
      rw [Int.toNat_natCast] at ht
      have hn8 := hs.len8
      have hll : l.length = n - P := by rw [HL.out, List.length_drop, ← hn8]
      clear hv
      by_cases hsh : l.length < m
      · rw [if_pos hsh] at ht
        have HT := Lib.hid ht
        have ts : (n : Int) - (P : Int) < (m : Int) := by omega
        clear ht hn8 hll hsh
        go_wp2_with fail
        refine wp_region_C [(0, false), (1, false), (2, false), (3, false), (4, false), (5, false), (6, true), (7, true), (8, true), (9, true), (10, true), (11, true), (12, true), (13, true), (14, true), (15, true), (16, false), (17, false), (18, false)] RBel (by kernel_rfl) (by kernel_rfl) (by kernel_rfl) (by decide) RBel.refl_ RBel.trans_ (by intro d v c a w h; cases d <;> exact h) ?_
        have hcd := hc.drew
        have swd := hs.drew
        have hbd := RBut.trans_ _ _ _ _ hb1 (RBut.of_below (Below.refl _ _).drew)
        generalize w1.drew = wd at *
        have hcw : ∀ w', RBel wd w' → RrC w' p A n c P 0 := fun w' hw' => hcd.keep (hw'.block p hcd.lt)
        have c0 := fun w' hw' => (hcw w' hw').c0
        have c1 := fun w' hw' => (hcw w' hw').c1
        have d0 := hcd.c0
        have d1 := hcd.c1
        have d2 := hcd.c2
        have w1s : IntKind.i64.wrap ((n : Int) - (P : Int)) = (n : Int) - (P : Int) := IntWalk.i64_in _ (by omega)
        repeat (first | (refine wpC_quiet (v := ?_) rfl (by rfl) ?_ ?_; rotate_left; (· (intro w' hw'; go_simp; try with_reducible rfl)); simp only [Act.put, List.setIfInBounds_toArray, List.set_cons_zero, List.set_cons_succ]) | (refine wpC_val (v := ?_) (RBel.refl_) rfl (by rfl) ?_ ?_; rotate_left; (· (go_simp; try with_reducible rfl)); simp only [Act.put, List.setIfInBounds_toArray, List.set_cons_zero, List.set_cons_succ]) | (refine wpC_skip rfl (by rfl) ?_; simp only [Act.put, List.setIfInBounds_toArray, List.set_cons_zero, List.set_cons_succ]) | (refine wpC_skip' (RBel.refl_) rfl (by rfl) ?_; simp only [Act.put, List.setIfInBounds_toArray, List.set_cons_zero, List.set_cons_succ]))
        refine wpC_nil ?_
        clear c0 c1 hcw w1s
        have fzd := hcd.fz 2
        have hs4 := hcd.set2 8
        have sws := swd.but2 (RBut.setC wd p 2 (.int .i64 8)) (away_ne hA)
        have hb4 := RBut.trans_ _ _ _ _ hbd (RBut.setC wd p 2 (.int .i64 8))
        go_wp2_with fail
        go_ret
        rw [HT.out]
        exact ⟨none, 0, 0, rfl, Own.nil_, Rr.err hs4 hnc hcm sws hAH hP (by decide), hb4⟩
      · rw [if_neg hsh] at ht
        have HT := Lib.hid ht
        have ts : ¬ (n : Int) - (P : Int) < (m : Int) := by omega
        have hPm : P + m ≤ n := by omega
        clear ht hn8 hll hsh
        go_wp2_with fail
        refine wp_region_C [(0, false), (1, false), (2, false), (3, false), (4, false), (5, false), (6, true), (7, true), (8, true), (9, true), (10, true), (11, true), (12, true), (13, true), (14, true), (15, true), (16, false), (17, false), (18, false)] RBel (by kernel_rfl) (by kernel_rfl) (by kernel_rfl) (by decide) RBel.refl_ RBel.trans_ (by intro d v c a w h; cases d <;> exact h) ?_
        have hcd := hc.drew
        have swd := hs.drew
        have hbd := RBut.trans_ _ _ _ _ hb1 (RBut.of_below (Below.refl _ _).drew)
        generalize w1.drew = wd at *
        have hcw : ∀ w', RBel wd w' → RrC w' p A n c P 0 := fun w' hw' => hcd.keep (hw'.block p hcd.lt)
        have c0 := fun w' hw' => (hcw w' hw').c0
        have c1 := fun w' hw' => (hcw w' hw').c1
        have d0 := hcd.c0
        have d1 := hcd.c1
        have d2 := hcd.c2
        have w1s : IntKind.i64.wrap ((n : Int) - (P : Int)) = (n : Int) - (P : Int) := IntWalk.i64_in _ (by omega)
        repeat (first | (refine wpC_quiet (v := ?_) rfl (by rfl) ?_ ?_; rotate_left; (· (intro w' hw'; go_simp; try with_reducible rfl)); simp only [Act.put, List.setIfInBounds_toArray, List.set_cons_zero, List.set_cons_succ]) | (refine wpC_val (v := ?_) (RBel.refl_) rfl (by rfl) ?_ ?_; rotate_left; (· (go_simp; try with_reducible rfl)); simp only [Act.put, List.setIfInBounds_toArray, List.set_cons_zero, List.set_cons_succ]) | (refine wpC_skip rfl (by rfl) ?_; simp only [Act.put, List.setIfInBounds_toArray, List.set_cons_zero, List.set_cons_succ]) | (refine wpC_skip' (RBel.refl_) rfl (by rfl) ?_; simp only [Act.put, List.setIfInBounds_toArray, List.set_cons_zero, List.set_cons_succ]))
        refine wpC_nil ?_
        clear c0 c1 hcw w1s
        have fzd := hcd.fz 1
        obtain ⟨P1, hP1⟩ : ∃ P1, P1 = P + m := ⟨_, rfl⟩
        have u1 : (P : Int) + (m : Int) = (P1 : Int) := by omega
        have hs4 := hcd.set1 P1
        have sws := swd.but2 (RBut.setC wd p 1 (.int .i64 (P1 : Int))) (away_ne hA)
        have hb4 := RBut.trans_ _ _ _ _ hbd (RBut.setC wd p 1 (.int .i64 (P1 : Int)))
        have HP1 := Lib.hid hP1
        have hP1n : P1 ≤ n := by omega
        have hPP1 : P ≤ P1 := by omega
        clear hP1
        have hlt1 : P ≤ c := by omega
        have hlt2 : (P1 : Int) ≤ (c : Int) := by omega
        have hlt3 : (P : Int) ≤ (P1 : Int) := by omega
        have pm : P1 - P = m := by have := HP1.out; omega
        rcases hA with hA0 | ⟨bA, oA, hA0, hbA⟩
        · subst hA0
          have hn0 : n = 0 := by
            rcases Nat.eq_zero_or_pos n with h0 | h0
            · exact h0
            · obtain ⟨_, _, h, _⟩ := hs.cells h0
              cases h
          have hm0 : m = 0 := by have := HP1.out; omega
          have HM0 := Lib.hid hm0
          clear hn0 hm0
          have hA : Away none p := .inl rfl
          go_wp2_with fail
          obtain ⟨wx, hwx⟩ : ∃ wx, wx = (wd.setCell ⟨p, 1, none⟩ (.int .i64 (P1 : Int))).drew := ⟨_, rfl⟩
          have hcx : RrC wx p none n c P1 0 := by rw [hwx]; exact hs4.drew
          have swx : Sl wx 1 none n (B8 bs) := by rw [hwx]; exact sws.drew
          have hbx : RBut (some p) w wx := by rw [hwx]; exact RBut.trans_ _ _ _ _ hb4 (RBut.of_below (Below.refl _ _).drew)
          refine wp_region_C [(1, true), (2, true), (3, true), (4, true), (5, true), (6, true), (7, true), (8, true), (9, true), (10, true), (11, true), (12, true), (13, true), (14, true), (15, true), (0, false), (16, false), (17, false)] (RBut (some wx.heap.size)) (by kernel_rfl) (by kernel_rfl) (by kernel_rfl) (by decide) (RBut.refl_ _) (RBut.trans_ _) (by intro d v c a w h; cases d <;> exact h) ?_
          rw [← hwx]
          clear hwx hs4 sws hb4 hcd swd hbd d0 d1 d2 fzd
          have hpx : p ≠ wx.heap.size := by have := hcx.lt; omega
          have hcw := fun w' (hw' : RBut (some wx.heap.size) wx w') => hcx.keep (hw'.block p hcx.lt (fun h => by injection h; omega))
          have c0 := fun w' hw' => (hcw w' hw').c0
          have c1 := fun w' hw' => (hcw w' hw').c1
          have hws : w.heap.size ≤ wx.heap.size := hbx.size
          have m1 : IntKind.i64.wrap ((P1 : Int) - (m : Int)) = (P : Int) := by rw [IntWalk.i64_in _ (by omega)]; omega
          repeat (first | (refine wpC_quiet (v := ?_) rfl (by rfl) ?_ ?_; rotate_left; (· (intro w' hw'; go_simp; try with_reducible rfl)); simp only [Act.put, List.setIfInBounds_toArray, List.set_cons_zero, List.set_cons_succ]) | (refine wpC_val (v := ?_) (RBut.refl_ _) rfl (by rfl) ?_ ?_; rotate_left; (· (go_simp; try with_reducible rfl)); simp only [Act.put, List.setIfInBounds_toArray, List.set_cons_zero, List.set_cons_succ]) | (refine wpC_skip rfl (by rfl) ?_; simp only [Act.put, List.setIfInBounds_toArray, List.set_cons_zero, List.set_cons_succ]) | (refine wpC_skip' (RBut.refl_ _) rfl (by rfl) ?_; simp only [Act.put, List.setIfInBounds_toArray, List.set_cons_zero, List.set_cons_succ]))
          clear c0 c1 hcw
          (refine wpC_loud rfl (by rfl) ?_; intro K hK; go_simp)
          have hba : Below wx.heap.size wx (wx.alloc (.cells #[] 5)) := (Below.refl _ _).alloc (Nat.le_refl _) _
          (refine hK.out _ _ (RBut.of_below hba) ?_; clear hK K; try simp only [Act.put, List.setIfInBounds_toArray, List.set_cons_zero, List.set_cons_succ])
          refine wpC_loud rfl (by rfl) ?_
          intro K hK
          refine wp_app _ _ _ _ elB rfl rfl (Own.made wx wx.heap.size 5 #[] (Nat.le_refl _) (Nat.zero_le _) (by simp)) rfl ((show Sl wx 1 none m (B8 (l.take m)) by rw [HM0.out, List.take_zero]; exact Sl.nil_).alloc _) (B8_one _) (by omega) (by omega) (by simp) ?_
          intro A3 c3 w3 g3
          (refine hK.out _ _ (g3.grow) ?_; clear hK K; try simp only [Act.put, List.setIfInBounds_toArray, List.set_cons_zero, List.set_cons_succ])
          have o3 := g3.own
          simp only [Nat.zero_add, List.nil_append] at o3
          have hb3 : Below wx.heap.size wx w3 := hba.trans (g3.below (Own.made wx wx.heap.size 5 #[] (Nat.le_refl _) (Nat.zero_le _) (by simp)) (by simp))
          clear g3
          repeat (first | (refine wpC_quiet (v := ?_) rfl (by rfl) ?_ ?_; rotate_left; (· (intro w' hw'; go_simp; try with_reducible rfl)); simp only [Act.put, List.setIfInBounds_toArray, List.set_cons_zero, List.set_cons_succ]) | (refine wpC_val (v := ?_) (RBut.refl_ _) rfl (by rfl) ?_ ?_; rotate_left; (· (go_simp; try with_reducible rfl)); simp only [Act.put, List.setIfInBounds_toArray, List.set_cons_zero, List.set_cons_succ]) | (refine wpC_skip rfl (by rfl) ?_; simp only [Act.put, List.setIfInBounds_toArray, List.set_cons_zero, List.set_cons_succ]) | (refine wpC_skip' (RBut.refl_ _) rfl (by rfl) ?_; simp only [Act.put, List.setIfInBounds_toArray, List.set_cons_zero, List.set_cons_succ]))
          refine wpC_nil ?_
          go_wp2_with fail
          go_ret
          rw [HT.out]
          refine ⟨A3, _, c3, by first | rfl | (congr 1; congr 1; omega), ?_, ⟨_, n, c, P1, bs, hcx.keep (hb3.block p hcx.lt), hnc, hcm, swx.to hb3, hAH, hP1n, fun _ => by rw [HL.out, List.drop_drop, HP1.out]⟩, RBut.trans_ _ _ _ _ hbx (RBut.of_below hb3)⟩
          have := o3.mono hws
          simpa using this
        · subst hA0
          by_cases hcp : c = P
          · have hm0 : m = 0 := by have := HP1.out; omega
            have hlt4 : (P1 : Int) ≤ (P : Int) := by have := HP1.out; omega
            have HM0 := Lib.hid hm0
            clear hm0
            have hA : Away (some ⟨bA, oA, none⟩) p := .inr ⟨bA, oA, rfl, hbA⟩
            go_wp2_with fail
            obtain ⟨wx, hwx⟩ : ∃ wx, wx = (wd.setCell ⟨p, 1, none⟩ (.int .i64 (P1 : Int))).drew := ⟨_, rfl⟩
            have hcx : RrC wx p (some ⟨bA, oA, none⟩) n c P1 0 := by rw [hwx]; exact hs4.drew
            have swx : Sl wx 1 (some ⟨bA, oA, none⟩) n (B8 bs) := by rw [hwx]; exact sws.drew
            have hbx : RBut (some p) w wx := by rw [hwx]; exact RBut.trans_ _ _ _ _ hb4 (RBut.of_below (Below.refl _ _).drew)
            refine wp_region_C [(1, true), (2, true), (3, true), (4, true), (5, true), (6, true), (7, true), (8, true), (9, true), (10, true), (11, true), (12, true), (13, true), (14, true), (15, true), (0, false), (16, false), (17, false)] (RBut (some wx.heap.size)) (by kernel_rfl) (by kernel_rfl) (by kernel_rfl) (by decide) (RBut.refl_ _) (RBut.trans_ _) (by intro d v c a w h; cases d <;> exact h) ?_
            rw [← hwx]
            clear hwx hs4 sws hb4 hcd swd hbd d0 d1 d2 fzd
            have hpx : p ≠ wx.heap.size := by have := hcx.lt; omega
            have hcw := fun w' (hw' : RBut (some wx.heap.size) wx w') => hcx.keep (hw'.block p hcx.lt (fun h => by injection h; omega))
            have c0 := fun w' hw' => (hcw w' hw').c0
            have c1 := fun w' hw' => (hcw w' hw').c1
            have hws : w.heap.size ≤ wx.heap.size := hbx.size
            have m1 : IntKind.i64.wrap ((P1 : Int) - (m : Int)) = (P : Int) := by rw [IntWalk.i64_in _ (by omega)]; omega
            repeat (first | (refine wpC_quiet (v := ?_) rfl (by rfl) ?_ ?_; rotate_left; (· (intro w' hw'; go_simp; try with_reducible rfl)); simp only [Act.put, List.setIfInBounds_toArray, List.set_cons_zero, List.set_cons_succ]) | (refine wpC_val (v := ?_) (RBut.refl_ _) rfl (by rfl) ?_ ?_; rotate_left; (· (go_simp; try with_reducible rfl)); simp only [Act.put, List.setIfInBounds_toArray, List.set_cons_zero, List.set_cons_succ]) | (refine wpC_skip rfl (by rfl) ?_; simp only [Act.put, List.setIfInBounds_toArray, List.set_cons_zero, List.set_cons_succ]) | (refine wpC_skip' (RBut.refl_ _) rfl (by rfl) ?_; simp only [Act.put, List.setIfInBounds_toArray, List.set_cons_zero, List.set_cons_succ]))
            clear c0 c1 hcw
            (refine wpC_loud rfl (by rfl) ?_; intro K hK; go_simp)
            have hba : Below wx.heap.size wx (wx.alloc (.cells #[] 5)) := (Below.refl _ _).alloc (Nat.le_refl _) _
            (refine hK.out _ _ (RBut.of_below hba) ?_; clear hK K; try simp only [Act.put, List.setIfInBounds_toArray, List.set_cons_zero, List.set_cons_succ])
            refine wpC_loud rfl (by rfl) ?_
            intro K hK
            refine wp_app _ _ _ _ elB rfl rfl (Own.made wx wx.heap.size 5 #[] (Nat.le_refl _) (Nat.zero_le _) (by simp)) rfl ((show Sl wx 1 (some ⟨bA, oA, none⟩) m (B8 (l.take m)) by rw [HM0.out, List.take_zero]; exact Sl.nil_).alloc _) (B8_one _) (by omega) (by omega) (by simp) ?_
            intro A3 c3 w3 g3
            (refine hK.out _ _ (g3.grow) ?_; clear hK K; try simp only [Act.put, List.setIfInBounds_toArray, List.set_cons_zero, List.set_cons_succ])
            have o3 := g3.own
            simp only [Nat.zero_add, List.nil_append] at o3
            have hb3 : Below wx.heap.size wx w3 := hba.trans (g3.below (Own.made wx wx.heap.size 5 #[] (Nat.le_refl _) (Nat.zero_le _) (by simp)) (by simp))
            clear g3
            repeat (first | (refine wpC_quiet (v := ?_) rfl (by rfl) ?_ ?_; rotate_left; (· (intro w' hw'; go_simp; try with_reducible rfl)); simp only [Act.put, List.setIfInBounds_toArray, List.set_cons_zero, List.set_cons_succ]) | (refine wpC_val (v := ?_) (RBut.refl_ _) rfl (by rfl) ?_ ?_; rotate_left; (· (go_simp; try with_reducible rfl)); simp only [Act.put, List.setIfInBounds_toArray, List.set_cons_zero, List.set_cons_succ]) | (refine wpC_skip rfl (by rfl) ?_; simp only [Act.put, List.setIfInBounds_toArray, List.set_cons_zero, List.set_cons_succ]) | (refine wpC_skip' (RBut.refl_ _) rfl (by rfl) ?_; simp only [Act.put, List.setIfInBounds_toArray, List.set_cons_zero, List.set_cons_succ]))
            refine wpC_nil ?_
            go_wp2_with fail
            go_ret
            rw [HT.out]
            refine ⟨A3, _, c3, by first | rfl | (congr 1; congr 1; omega), ?_, ⟨_, n, c, P1, bs, hcx.keep (hb3.block p hcx.lt), hnc, hcm, swx.to hb3, hAH, hP1n, fun _ => by rw [HL.out, List.drop_drop, HP1.out]⟩, RBut.trans_ _ _ _ _ hbx (RBut.of_below hb3)⟩
            have := o3.mono hws
            simpa using this
          · have hA : Away (some ⟨bA, oA, none⟩) p := .inr ⟨bA, oA, rfl, hbA⟩
            go_wp2_with fail
            obtain ⟨wx, hwx⟩ : ∃ wx, wx = (wd.setCell ⟨p, 1, none⟩ (.int .i64 (P1 : Int))).drew := ⟨_, rfl⟩
            have hcx : RrC wx p (some ⟨bA, oA, none⟩) n c P1 0 := by rw [hwx]; exact hs4.drew
            have swx : Sl wx 1 (some ⟨bA, oA, none⟩) n (B8 bs) := by rw [hwx]; exact sws.drew
            have hbx : RBut (some p) w wx := by rw [hwx]; exact RBut.trans_ _ _ _ _ hb4 (RBut.of_below (Below.refl _ _).drew)
            refine wp_region_C [(1, true), (2, true), (3, true), (4, true), (5, true), (6, true), (7, true), (8, true), (9, true), (10, true), (11, true), (12, true), (13, true), (14, true), (15, true), (0, false), (16, false), (17, false)] (RBut (some wx.heap.size)) (by kernel_rfl) (by kernel_rfl) (by kernel_rfl) (by decide) (RBut.refl_ _) (RBut.trans_ _) (by intro d v c a w h; cases d <;> exact h) ?_
            rw [← hwx]
            clear hwx hs4 sws hb4 hcd swd hbd d0 d1 d2 fzd
            have hpx : p ≠ wx.heap.size := by have := hcx.lt; omega
            have hcw := fun w' (hw' : RBut (some wx.heap.size) wx w') => hcx.keep (hw'.block p hcx.lt (fun h => by injection h; omega))
            have c0 := fun w' hw' => (hcw w' hw').c0
            have c1 := fun w' hw' => (hcw w' hw').c1
            have hws : w.heap.size ≤ wx.heap.size := hbx.size
            have m1 : IntKind.i64.wrap ((P1 : Int) - (m : Int)) = (P : Int) := by rw [IntWalk.i64_in _ (by omega)]; omega
            repeat (first | (refine wpC_quiet (v := ?_) rfl (by rfl) ?_ ?_; rotate_left; (· (intro w' hw'; go_simp; try with_reducible rfl)); simp only [Act.put, List.setIfInBounds_toArray, List.set_cons_zero, List.set_cons_succ]) | (refine wpC_val (v := ?_) (RBut.refl_ _) rfl (by rfl) ?_ ?_; rotate_left; (· (go_simp; try with_reducible rfl)); simp only [Act.put, List.setIfInBounds_toArray, List.set_cons_zero, List.set_cons_succ]) | (refine wpC_skip rfl (by rfl) ?_; simp only [Act.put, List.setIfInBounds_toArray, List.set_cons_zero, List.set_cons_succ]) | (refine wpC_skip' (RBut.refl_ _) rfl (by rfl) ?_; simp only [Act.put, List.setIfInBounds_toArray, List.set_cons_zero, List.set_cons_succ]))
            clear c0 c1 hcw
            (refine wpC_loud rfl (by rfl) ?_; intro K hK; go_simp)
            have hba : Below wx.heap.size wx (wx.alloc (.cells #[] 5)) := (Below.refl _ _).alloc (Nat.le_refl _) _
            (refine hK.out _ _ (RBut.of_below hba) ?_; clear hK K; try simp only [Act.put, List.setIfInBounds_toArray, List.set_cons_zero, List.set_cons_succ])
            refine wpC_loud rfl (by rfl) ?_
            intro K hK
            refine wp_app _ _ _ _ elB rfl rfl (Own.made wx wx.heap.size 5 #[] (Nat.le_refl _) (Nat.zero_le _) (by simp)) rfl ((show Sl wx 1 (some ⟨bA, oA + P, none⟩) m (B8 (l.take m)) by rw [HL.out]; exact (swx.back (k := P) (by omega)).front (k := m) (by omega)).alloc _) (B8_one _) (by omega) (by omega) (by simp) ?_
            intro A3 c3 w3 g3
            (refine hK.out _ _ (g3.grow) ?_; clear hK K; try simp only [Act.put, List.setIfInBounds_toArray, List.set_cons_zero, List.set_cons_succ])
            have o3 := g3.own
            simp only [Nat.zero_add, List.nil_append] at o3
            have hb3 : Below wx.heap.size wx w3 := hba.trans (g3.below (Own.made wx wx.heap.size 5 #[] (Nat.le_refl _) (Nat.zero_le _) (by simp)) (by simp))
            clear g3
            repeat (first | (refine wpC_quiet (v := ?_) rfl (by rfl) ?_ ?_; rotate_left; (· (intro w' hw'; go_simp; try with_reducible rfl)); simp only [Act.put, List.setIfInBounds_toArray, List.set_cons_zero, List.set_cons_succ]) | (refine wpC_val (v := ?_) (RBut.refl_ _) rfl (by rfl) ?_ ?_; rotate_left; (· (go_simp; try with_reducible rfl)); simp only [Act.put, List.setIfInBounds_toArray, List.set_cons_zero, List.set_cons_succ]) | (refine wpC_skip rfl (by rfl) ?_; simp only [Act.put, List.setIfInBounds_toArray, List.set_cons_zero, List.set_cons_succ]) | (refine wpC_skip' (RBut.refl_ _) rfl (by rfl) ?_; simp only [Act.put, List.setIfInBounds_toArray, List.set_cons_zero, List.set_cons_succ]))
            refine wpC_nil ?_
            go_wp2_with fail
            go_ret
            rw [HT.out]
            refine ⟨A3, _, c3, by first | rfl | (congr 1; congr 1; omega), ?_, ⟨_, n, c, P1, bs, hcx.keep (hb3.block p hcx.lt), hnc, hcm, swx.to hb3, hAH, hP1n, fun _ => by rw [HL.out, List.drop_drop, HP1.out]⟩, RBut.trans_ _ _ _ _ hbx (RBut.of_below hb3)⟩
            have := o3.mono hws
            simpa using this
  · have ht := HE.out h0
    have HT := Lib.hid ht
    have t0 : (e == 0) = false := by simpa using h0
    have t1 : (e != 0) = true := by simpa using h0
    have c2 := hc.c2
    clear hx HE HO HI ht
    go_wp2_with fail
    refine wp_region_C [(0, false), (1, false), (2, false), (3, false), (4, false), (5, false), (6, true), (7, true), (8, true), (9, true), (10, true), (11, true), (12, true), (13, true), (14, true), (15, true), (16, false), (17, false), (18, false)] RBel (by kernel_rfl) (by kernel_rfl) (by kernel_rfl) (by decide) RBel.refl_ RBel.trans_ (by intro d v c a w h; cases d <;> exact h) ?_
    have hcd := hc.drew
    have swd := hs.drew
    have hbd := RBut.trans_ _ _ _ _ hb1 (RBut.of_below (Below.refl _ _).drew)
    generalize w1.drew = wd at *
    have d2 := hcd.c2
    repeat (first | (refine wpC_quiet (v := ?_) rfl (by rfl) ?_ ?_; rotate_left; (· (intro w' hw'; go_simp; try with_reducible rfl)); simp only [Act.put, List.setIfInBounds_toArray, List.set_cons_zero, List.set_cons_succ]) | (refine wpC_val (v := ?_) (RBel.refl_) rfl (by rfl) ?_ ?_; rotate_left; (· (go_simp; try with_reducible rfl)); simp only [Act.put, List.setIfInBounds_toArray, List.set_cons_zero, List.set_cons_succ]) | (refine wpC_skip rfl (by rfl) ?_; simp only [Act.put, List.setIfInBounds_toArray, List.set_cons_zero, List.set_cons_succ]) | (refine wpC_skip' (RBel.refl_) rfl (by rfl) ?_; simp only [Act.put, List.setIfInBounds_toArray, List.set_cons_zero, List.set_cons_succ]))
    refine wpC_nil ?_
    go_wp2_with fail
    go_ret
    rw [HT.out]
    exact ⟨none, 0, 0, rfl, Own.nil_, Rr.err hcd hnc hcm swd hAH hP h0, hbd⟩
end Go.Proofs.Ytoecbgdkbncfbaa
