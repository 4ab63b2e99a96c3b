/- The walk of capstanlaw1.CodeLoose. -/
import Derived.Test.YtoecbgdkbncfbaaRead5
namespace Go.Proofs.Ytoecbgdkbncfbaa
open Go.RowKit
set_option maxHeartbeats 1000000 in
theorem codeLoose_walk (w : World) (A : Option Addr) (n c : Nat) (bs : List UInt8) (hnc : n ≤ c) (hc : c ≤ maxLen) (sl : Sl w 1 A n (B8 bs)) :
    Calls Try.prog 5 #[.slice A n c] w (RB true w) := by
  have hn8 := sl.len8
  by_cases h20 : (20 : Int) < n
  · clear hnc hc hn8
    go_enter Try.func5, Try.ntmps5
    go_wp2_with fail
    refine (known_any _).mono ?_
    rintro e w1 ⟨rfl, hb1⟩
    go_wp2
    go_ret
    exact ⟨rfl, hb1⟩
  · have hn20 : n ≤ 20 := by omega
    rcases hd : dec 0 0 bs with ⟨u, l⟩ | _ | _
    · have hbs := enc_dec0 hd
      have hu := dec_lt bs 0 0 u l (by decide) (by decide) hd
      have hS : stInt (bs, 0) = (zag u, (l, 0)) := by simp [stInt, hd]
      have hz1 := zag_lo hu
      have hz2 := zag_hi hu
      have hzz := zig_zag u
      have HS := Lib.hid hS
      have HZ := Lib.hid hzz
      have HB := Lib.hid hbs
      have hlen : n = (enc u).length + l.length := by rw [hn8, hbs, List.length_append]
      obtain ⟨z, hzd⟩ : ∃ z, z = zag u := ⟨_, rfl⟩
      rw [← hzd] at HS HZ hz1 hz2
      have hpos := enc_pos u
      clear hd hS hn8 hzz hbs hu hzd
      rcases l with _ | ⟨x, l⟩
      · have hlen2 : n = (enc u).length := by simpa using hlen
        have HL := Lib.hid hlen2
        clear hlen hlen2
        go_enter Try.func5, Try.ntmps5
        go_wp2_with fail
        refine (known_any _).mono ?_
        rintro e w1 ⟨rfl, hb1⟩
        go_wp2_with fail
        refine (new_any A n c bs _ (sl.to hb1) (by omega)).mono ?_
        rintro e w2 ⟨p, rfl, hp, hr2, hb2⟩
        go_wp2_with fail
        refine (rInt_any p (bs, 0) _ hr2).mono ?_
        rw [HS.out]
        rintro e w3 ⟨rfl, hr3, hb3⟩
        go_wp2_with fail
        refine (rEnd_any p ([], 0) _ hr3).mono ?_
        rintro e w' ⟨rfl, rfl⟩
        rw [show stEnd ([], 0) = 0 from rfl]
        have fin : Below w.heap.size w w3 := hb1.trans (Below.mono (hb2.trans (below_but hb3 hp hb2.size)) hb1.size)
        have cvb : ∀ w', RBel w3.drew w' → (convert 24 9 (.slice A n c)).run Try.prog w' = .ok (.string (str bs)) w' := by
          intro w' hw'
          exact conv_str Try.underlying24 Try.underlying5 Try.underlying9 ((sl.to fin).drew.to hw')
        go_wp2_with fail
        refine wp_region_C [(0, true), (3, true), (4, true), (1, false), (2, false), (5, false), (6, false)] RBel (by kernel_rfl) (by kernel_rfl) (by kernel_rfl) (by decide) RBel.refl_ RBel.trans_ (by intro d v c a w h; cases d <;> exact h) ?_
        repeat (first | (refine wpC_quiet (v := ?_) rfl (by rfl) ?_ ?_; rotate_left; (· (intro w' hw'; go_simp; try with_reducible rfl)); simp only [Act.put, List.setIfInBounds_toArray, List.set_cons_zero, List.set_cons_succ]) | (refine wpC_val (v := ?_) (RBel.refl_) rfl (by rfl) ?_ ?_; rotate_left; (· (go_simp; try with_reducible rfl)); simp only [Act.put, List.setIfInBounds_toArray, List.set_cons_zero, List.set_cons_succ]) | (refine wpC_skip rfl (by rfl) ?_; simp only [Act.put, List.setIfInBounds_toArray, List.set_cons_zero, List.set_cons_succ]) | (refine wpC_skip' (RBel.refl_) rfl (by rfl) ?_; simp only [Act.put, List.setIfInBounds_toArray, List.set_cons_zero, List.set_cons_succ]))
        clear cvb
        (refine wpC_loud rfl (by rfl) ?_; intro K hK; go_simp)
        refine (int_any none 0 0 [] z _ Sl.nil_ (by omega) hz1 hz2).mono ?_
        rintro e w4 ⟨A4, n4, c4, rfl, ho4, hb4⟩
        (refine hK.out _ _ (hb4) ?_; clear hK K; try simp only [Act.put, List.setIfInBounds_toArray, List.set_cons_zero, List.set_cons_succ])
        have cv4 : (convert 24 9 (.slice A4 n4 c4)).run Try.prog w4 = .ok (.string (str bs)) w4 := by
          rw [conv_str Try.underlying24 Try.underlying5 Try.underlying9 ho4.sl, List.nil_append, HZ.out, show enc u = bs by rw [HB.out, List.append_nil]]
        have fin4 := fin.drew.trans (Below.mono hb4 (show w.heap.size ≤ w3.drew.heap.size from fin.size))
        repeat (first | (refine wpC_quiet (v := ?_) rfl (by rfl) ?_ ?_; rotate_left; (· (intro w' hw'; go_simp; try with_reducible rfl)); simp only [Act.put, List.setIfInBounds_toArray, List.set_cons_zero, List.set_cons_succ]) | (refine wpC_val (v := ?_) (RBel.refl_) rfl (by rfl) ?_ ?_; rotate_left; (· (go_simp; try with_reducible rfl)); simp only [Act.put, List.setIfInBounds_toArray, List.set_cons_zero, List.set_cons_succ]) | (refine wpC_skip rfl (by rfl) ?_; simp only [Act.put, List.setIfInBounds_toArray, List.set_cons_zero, List.set_cons_succ]) | (refine wpC_skip' (RBel.refl_) rfl (by rfl) ?_; simp only [Act.put, List.setIfInBounds_toArray, List.set_cons_zero, List.set_cons_succ]))
        refine wpC_nil ?_
        go_wp2
        go_ret
        exact ⟨rfl, fin4⟩
      · have hlen2 : (enc u).length + 1 ≤ n := by simp at hlen; omega
        clear hlen
        go_enter Try.func5, Try.ntmps5
        go_wp2_with fail
        refine (known_any _).mono ?_
        rintro e w1 ⟨rfl, hb1⟩
        go_wp2_with fail
        refine (new_any A n c bs _ (sl.to hb1) (by omega)).mono ?_
        rintro e w2 ⟨p, rfl, hp, hr2, hb2⟩
        go_wp2_with fail
        refine (rInt_any p (bs, 0) _ hr2).mono ?_
        rw [HS.out]
        rintro e w3 ⟨rfl, hr3, hb3⟩
        go_wp2_with fail
        refine (rEnd_any p (x :: l, 0) _ hr3).mono ?_
        rintro e w' ⟨rfl, rfl⟩
        rw [show stEnd (x :: l, 0) = 9 from rfl]
        have fin : Below w.heap.size w w3 := hb1.trans (Below.mono (hb2.trans (below_but hb3 hp hb2.size)) hb1.size)
        go_wp2_with fail
        refine (int_any none 0 0 [] z _ Sl.nil_ (by omega) hz1 hz2).mono ?_
        rintro e w4 ⟨A4, n4, c4, rfl, ho4, hb4⟩
        have hn4 := ho4.len8
        rw [List.nil_append, HZ.out] at hn4
        have fin4 := fin.trans (hb4.mono fin.size)
        have t1 : n4 < n := by omega
        have cv4 : ∀ w', RBel w4.drew w' → (convert 24 9 (.slice A4 n4 c4)).run Try.prog w' = .ok (.string (str (enc u))) w' := by
          intro w' hw'
          rw [conv_str Try.underlying24 Try.underlying5 Try.underlying9 (ho4.sl.drew.to hw'), List.nil_append, HZ.out]
        obtain ⟨b, o, rfl, _⟩ := sl.some_ (by omega)
        have cvb : ∀ w', RBel w4.drew w' → (convert 24 9 (.slice (some ⟨b, o, none⟩) n4 c)).run Try.prog w' = .ok (.string (str (enc u))) w' := by
          intro w' hw'
          rw [conv_str Try.underlying24 Try.underlying5 Try.underlying9 (((sl.to fin4).drew.to hw').front (k := n4) (by omega)), HB.out, List.take_left' hn4.symm]
        have t2 : (n4 : Int) ≤ (c : Int) := by omega
        have t3 : c ≤ 9223372036854775807 := by simp only [maxLen] at hc; omega
        have rc := RBel.refl_ w4.drew
        clear hn4 hlen2
        go_wp2_with fail
        refine wp_region_C [(0, true), (1, true), (2, false), (3, false), (4, false), (5, false), (6, true), (7, true), (8, true), (9, false), (10, false), (11, false), (12, false), (13, false), (14, false), (15, false)] RBel (by kernel_rfl) (by kernel_rfl) (by kernel_rfl) (by decide) RBel.refl_ RBel.trans_ (by intro d v c a w h; cases d <;> exact h) ?_
        repeat (first | (refine wpC_quiet (v := ?_) rfl (by rfl) ?_ ?_; rotate_left; (· (intro w' hw'; go_simp; try with_reducible rfl)); simp only [Act.put, List.setIfInBounds_toArray, List.set_cons_zero, List.set_cons_succ]) | (refine wpC_val (v := ?_) (RBel.refl_) rfl (by rfl) ?_ ?_; rotate_left; (· (go_simp; try with_reducible rfl)); simp only [Act.put, List.setIfInBounds_toArray, List.set_cons_zero, List.set_cons_succ]) | (refine wpC_skip rfl (by rfl) ?_; simp only [Act.put, List.setIfInBounds_toArray, List.set_cons_zero, List.set_cons_succ]) | (refine wpC_skip' (RBel.refl_) rfl (by rfl) ?_; simp only [Act.put, List.setIfInBounds_toArray, List.set_cons_zero, List.set_cons_succ]))
        refine wpC_nil ?_
        go_wp2
        go_ret
        exact ⟨rfl, fin4.drew⟩
    · have hS := stInt_cut hd
      have hl := dec_cut_len bs 0 0 (by omega) hd
      have t10 : (n : Int) < 10 := by omega
      have HS := Lib.hid hS
      clear hd hS hl hn8 hnc hc
      go_enter Try.func5, Try.ntmps5
      go_wp2_with fail
      refine (known_any _).mono ?_
      rintro e w1 ⟨rfl, hb1⟩
      go_wp2_with fail
      refine (new_any A n c bs _ (sl.to hb1) (by omega)).mono ?_
      rintro e w2 ⟨p, rfl, hp, hr2, hb2⟩
      go_wp2_with fail
      refine (rInt_any p (bs, 0) _ hr2).mono ?_
      rw [HS.out]
      rintro e w3 ⟨rfl, hr3, hb3⟩
      go_wp2_with fail
      refine (rEnd_any p ([], 8) _ hr3).mono ?_
      rintro e w' ⟨rfl, rfl⟩
      rw [show stEnd ([], 8) = 8 from rfl]
      have fin : Below w.heap.size w w3 := hb1.trans (Below.mono (hb2.trans (below_but hb3 hp hb2.size)) hb1.size)
      go_wp2
      go_ret
      exact ⟨rfl, fin⟩
    · have hS := stInt_bad hd
      have HS := Lib.hid hS
      clear hd hS hn8 hnc hc
      go_enter Try.func5, Try.ntmps5
      go_wp2_with fail
      refine (known_any _).mono ?_
      rintro e w1 ⟨rfl, hb1⟩
      go_wp2_with fail
      refine (new_any A n c bs _ (sl.to hb1) (by omega)).mono ?_
      rintro e w2 ⟨p, rfl, hp, hr2, hb2⟩
      go_wp2_with fail
      refine (rInt_any p (bs, 0) _ hr2).mono ?_
      rw [HS.out]
      rintro e w3 ⟨rfl, hr3, hb3⟩
      go_wp2_with fail
      refine (rEnd_any p ([], 10) _ hr3).mono ?_
      rintro e w' ⟨rfl, rfl⟩
      rw [show stEnd ([], 10) = 10 from rfl]
      have fin : Below w.heap.size w w3 := hb1.trans (Below.mono (hb2.trans (below_but hb3 hp hb2.size)) hb1.size)
      go_wp2_with fail
      refine (rEnd_any p ([], 10) _ hr3).mono ?_
      rintro e w' ⟨rfl, rfl⟩
      rw [show stEnd ([], 10) = 10 from rfl]
      go_wp2
      go_ret
      exact ⟨rfl, fin⟩
end Go.Proofs.Ytoecbgdkbncfbaa
