/- The walk of capstanlaw1.CodeReads. -/
import Derived.Test.YtoecbgdkbncfbaaRside
namespace Go.Proofs.Ytoecbgdkbncfbaa
open Go.RowKit
set_option maxRecDepth 100000 in
set_option maxHeartbeats 4000000 in
theorem codeReads_walk (w : World) (A : Option Addr) (n c : Nat) (bs : List UInt8) (hnc : n ≤ c) (hcm : c ≤ maxLen) (sl : Sl w 1 A n (B8 bs)) (aw : A = none ∨ ∃ b o, A = some ⟨b, o, none⟩ ∧ b < w.heap.size) (A2 : Option Addr) (n2 c2 : Nat) (zs : List Int) (hnc2 : n2 ≤ c2) (hcm2 : c2 ≤ maxLen) (zb : ∀ z ∈ zs, -9223372036854775808 ≤ z ∧ z < 9223372036854775808) (sl2 : Sl w 1 A2 n2 (zs.map (Value.int .i64))) :
    Calls Try.prog 8 #[.slice A n c, .slice A2 n2 c2] w (RB true w) := by
  by_cases h500 : (500 : Int) < n
  · go_enter Try.func8, Try.ntmps8
    go_wp2_with fail
    refine (known_any _).mono ?_
    rintro e w1 ⟨rfl, h1⟩
    go_wp2_with fail
    go_ret
    exact ⟨rfl, h1⟩
  · have hn : n ≤ 500 := by omega
    go_enter Try.func8, Try.ntmps8
    go_wp2_with fail
    refine (known_any _).mono ?_
    rintro e w1 ⟨rfl, h1⟩
    have s1 := sl.to h1
    go_wp2_with (first
      | (at_builtin
         refine wpl_app _ _ _ _ elB rfl rfl rfl (Own.made w1 w1.heap.size 5 #[] (Nat.le_refl _) (Nat.zero_le _) (by simp)) rfl (s1.alloc _) (B8_one _) (by omega) (by omega) (by simp) ?_
         intro A3 c3 w3 g3
         have o3 : Own w3 w1.heap.size 5 1 A3 n c3 (B8 bs) := by have := g3.own; simp only [Nat.zero_add, List.nil_append] at this; exact this
         have h3 : Below w1.heap.size w1 w3 := ((Below.refl _ _).alloc (Nat.le_refl _) _).trans (g3.below (Own.made w1 w1.heap.size 5 #[] (Nat.le_refl _) (Nat.zero_le _) (by simp)) (by simp))
         rw [Nat.zero_add]
         clear g3))
    refine (new_any A3 n c3 bs w3 o3.sl (by omega)).mono ?_
    rintro e w4 ⟨p, rfl, hp, hr4, h4⟩
    have f3 : Below w.heap.size w w3 := h1.trans (h3.mono h1.size)
    have f4 := f3.trans (h4.mono f3.size)
    go_wp2_with fail
    have aw4 : w.heap.size ≤ w4.heap.size := f4.size
    refine (rrNew_any w.heap.size A n c bs w4 (sl.to f4) hnc ⟨by omega, hcm⟩ aw4 aw).mono ?_
    rintro e w5 ⟨q, rfl, hq, hx5, h5⟩
    have f5 := f4.trans (h5.mono f4.size)
    have hr5 := hr4.keep h5
    have hpq : p < q := Nat.lt_of_lt_of_le hr4.lt hq
    have hwp : w.heap.size ≤ p := Nat.le_trans f3.size hp
    go_wp2_with fail
    have l2 := sl2.len
    rw [List.length_map, Nat.mul_one] at l2
    have L2 := Lib.hid l2
    clear hr4 o3 s1 h1 h3 h4 f3 f4 aw4 h5 hcm hnc l2
    go_loopw [7] (fun i wr => ∃ (m : Nat) (s : List UInt8 × Int), i = .int .i64 m ∧ m ≤ 30 ∧ Rd wr p s.1 s.2 ∧ Rr w.heap.size wr q s.1 s.2 ∧ Below w.heap.size w wr) (fun i _ => 30 - (intOf i).toNat)
    case atStart => exact ⟨0, (bs, 0), rfl, by omega, hr5, hx5, f5⟩
    case round =>
      clear hr5 hx5 f5
      obtain ⟨m, s, rfl, hm30, hr, hx, hb⟩ := hrel
      by_cases hlt : m < n2 ∧ m < 30
      · obtain ⟨hmn, hm⟩ := hlt
        obtain ⟨z, hz⟩ : ∃ z, zs[m]? = some z := ⟨_, List.getElem?_eq_getElem (by rw [L2.out]; exact hmn)⟩
        obtain ⟨z_lo, z_hi⟩ := zb z (List.mem_of_getElem? hz)
        have sw2 := sl2.to hb
        obtain ⟨b2, o2, rfl, hb2⟩ := sw2.some_ (by omega)
        have cz : ∀ w', Below w.heap.size w w' → w'.cell? ⟨b2, o2 + m, none⟩ = some (.int .i64 z) := fun w' hw' => (sl2.to hw').cell (k := m) (by simp [hz])
        have t1 : (m : Int) < (n2 : Int) := by omega
        have t2 : (m : Int) < 30 := by omega
        have cz0 := cz wr hb
        have CZ := Lib.hid cz
        clear cz hz
        have hmod : ∃ k : Int, z % 7 = k ∧ ((k = 0 ∨ k = 1 ∨ k = 2) ∨ (k = 3 ∨ k = 4) ∨ k = 5 ∨ k = 6) := ⟨z % 7, rfl, by omega⟩
        obtain ⟨k, hk, hkk⟩ := hmod
        have HK := Lib.hid hk
        clear hk
        go_wp2_with fail
        refine (within_any z 7 _ (by omega) (by omega) z_lo z_hi).mono ?_
        rintro en w' ⟨rfl, rfl⟩
        rw [HK.out]
        rcases hkk with (rfl | rfl | rfl) | (rfl | rfl) | rfl | rfl
        iterate 3 (focus
          go_wp2_with fail
          refine (rInt_any p s _ hr).mono ?_
          rintro en w6 ⟨rfl, hr6, bu6⟩
          have hx6 := hx.side bu6 hwp (by omega)
          have hb6 := hb.trans (below_but bu6 hwp hb.size)
          go_wp2_with fail
          refine (rrInt_any w.heap.size q s _ hx6).mono ?_
          rintro en w7 ⟨rfl, hx7, bu7⟩
          have hr7 := hr6.side bu7 hpq
          have hb7 := hb6.trans (below_but bu7 (Nat.le_of_lt (Nat.lt_of_le_of_lt hwp hpq)) hb6.size)
          generalize (stInt s).2 = s' at *
          generalize (stInt s).1 = v at *
          go_wp2_with fail
          refine (rEnd_any p s' _ hr7).mono ?_
          rintro en w' ⟨rfl, rfl⟩
          go_wp2_with fail
          refine (rrEnd_any w.heap.size q s' _ hx7).mono ?_
          rintro en w8 ⟨rfl, hx8, bu8⟩
          have hr8 := hr7.side bu8 hpq
          have hb8 := hb7.trans (below_but bu8 (Nat.le_of_lt (Nat.lt_of_le_of_lt hwp hpq)) hb7.size)
          generalize stEnd s' = ve at *
          go_wp2_with fail
          go_roundw
          case rel => exact ⟨m + 1, s', by go_num, by omega, hr8, hx8, hb8⟩
          case measure => simp [intOf]; omega)
        iterate 2 (focus
          go_wp2_with fail
          refine wp_region_C [(0, true), (3, true), (1, false), (2, true), (4, false), (5, false), (6, false)] (RTwo p q) (by kernel_rfl) (by kernel_rfl) (by kernel_rfl) (by decide) (RTwo.refl_ _ _) (RTwo.trans_ _ _) (by intro d v c a w h; cases d <;> exact h) ?_
          have hrd : Rd wr.drew p s.1 s.2 := hr.keep (Below.refl _ _).drew
          have hxd : Rr w.heap.size wr.drew q s.1 s.2 := hx.to (Below.refl _ _).drew
          have hbd := hb.drew
          clear hr hx hb cz0 sw2 CZ
          generalize wr.drew = wd at *
          repeat (first | (refine wpC_quiet (v := ?_) rfl (by rfl) ?_ ?_; rotate_left; (· (intro w' hw'; go_simp; try with_reducible rfl)); simp only [Act.put, List.setIfInBounds_toArray, List.set_cons_zero, List.set_cons_succ]) | (refine wpC_val (v := ?_) (RTwo.refl_ _ _) rfl (by rfl) ?_ ?_; rotate_left; (· (go_simp; try with_reducible rfl)); simp only [Act.put, List.setIfInBounds_toArray, List.set_cons_zero, List.set_cons_succ]) | (refine wpC_skip rfl (by rfl) ?_; simp only [Act.put, List.setIfInBounds_toArray, List.set_cons_zero, List.set_cons_succ]) | (refine wpC_skip' (RTwo.refl_ _ _) rfl (by rfl) ?_; simp only [Act.put, List.setIfInBounds_toArray, List.set_cons_zero, List.set_cons_succ]))
          (refine wpC_loud rfl (by rfl) ?_; intro K hK; go_simp)
          refine (rText_any p s _ hrd).mono ?_
          rintro en w6 ⟨A6, n6, c6, rfl, ho6, hr6, bu6⟩
          (refine hK.out _ _ (RTwo.one bu6) ?_; clear hK K; try simp only [Act.put, List.setIfInBounds_toArray, List.set_cons_zero, List.set_cons_succ])
          have hx6 := hxd.side bu6 hwp (by omega)
          have hb6 := hbd.trans (below_but bu6 hwp hbd.size)
          have hqd : q < wd.heap.size := hxd.lt
          have cv6 : ∀ w', RTwo p q w6 w' → (convert 24 9 (.slice A6 n6 c6)).run Try.prog w' = .ok (.string (str (stText s).1)) w' := by
            intro w' hw'
            exact conv_str Try.underlying24 Try.underlying5 Try.underlying9 (sl_two ho6.sl hw' fun b hb => by have := (ho6.lt b hb).1; omega)
          repeat (first | (refine wpC_quiet (v := ?_) rfl (by rfl) ?_ ?_; rotate_left; (· (intro w' hw'; go_simp; try with_reducible rfl)); simp only [Act.put, List.setIfInBounds_toArray, List.set_cons_zero, List.set_cons_succ]) | (refine wpC_val (v := ?_) (RTwo.refl_ _ _) rfl (by rfl) ?_ ?_; rotate_left; (· (go_simp; try with_reducible rfl)); simp only [Act.put, List.setIfInBounds_toArray, List.set_cons_zero, List.set_cons_succ]) | (refine wpC_skip rfl (by rfl) ?_; simp only [Act.put, List.setIfInBounds_toArray, List.set_cons_zero, List.set_cons_succ]) | (refine wpC_skip' (RTwo.refl_ _ _) rfl (by rfl) ?_; simp only [Act.put, List.setIfInBounds_toArray, List.set_cons_zero, List.set_cons_succ]))
          clear cv6
          (refine wpC_loud rfl (by rfl) ?_; intro K hK; go_simp)
          refine (rrText_any w.heap.size q s _ hx6).mono ?_
          rintro en w7 ⟨A7, n7, c7, rfl, ho7, hx7, bu7⟩
          (refine hK.out _ _ (RTwo.two bu7) ?_; clear hK K; try simp only [Act.put, List.setIfInBounds_toArray, List.set_cons_zero, List.set_cons_succ])
          have hr7 := hr6.side bu7 hpq
          have hb7 := hb6.trans (below_but bu7 (Nat.le_of_lt (Nat.lt_of_le_of_lt hwp hpq)) hb6.size)
          have cv7 : (convert 24 9 (.slice A7 n7 c7)).run Try.prog w7 = .ok (.string (str (stText s).1)) w7 :=
            conv_str Try.underlying24 Try.underlying5 Try.underlying9 ho7.sl
          generalize (stText s).2 = s' at *
          generalize str (stText s).1 = v at *
          repeat (first | (refine wpC_quiet (v := ?_) rfl (by rfl) ?_ ?_; rotate_left; (· (intro w' hw'; go_simp; try with_reducible rfl)); simp only [Act.put, List.setIfInBounds_toArray, List.set_cons_zero, List.set_cons_succ]) | (refine wpC_val (v := ?_) (RTwo.refl_ _ _) rfl (by rfl) ?_ ?_; rotate_left; (· (go_simp; try with_reducible rfl)); simp only [Act.put, List.setIfInBounds_toArray, List.set_cons_zero, List.set_cons_succ]) | (refine wpC_skip rfl (by rfl) ?_; simp only [Act.put, List.setIfInBounds_toArray, List.set_cons_zero, List.set_cons_succ]) | (refine wpC_skip' (RTwo.refl_ _ _) rfl (by rfl) ?_; simp only [Act.put, List.setIfInBounds_toArray, List.set_cons_zero, List.set_cons_succ]))
          refine wpC_nil ?_
          clear cv7
          go_wp2_with fail
          refine (rEnd_any p s' _ hr7).mono ?_
          rintro en w' ⟨rfl, rfl⟩
          go_wp2_with fail
          refine (rrEnd_any w.heap.size q s' _ hx7).mono ?_
          rintro en w8 ⟨rfl, hx8, bu8⟩
          have hr8 := hr7.side bu8 hpq
          have hb8 := hb7.trans (below_but bu8 (Nat.le_of_lt (Nat.lt_of_le_of_lt hwp hpq)) hb7.size)
          generalize stEnd s' = ve at *
          go_wp2_with fail
          go_roundw
          case rel => exact ⟨m + 1, s', by go_num, by omega, hr8, hx8, hb8⟩
          case measure => simp [intOf]; omega)
        · go_wp2_with fail
          refine (rHash_any p s _ hr).mono ?_
          rintro en w6 ⟨rfl, hr6, bu6⟩
          have hx6 := hx.side bu6 hwp (by omega)
          have hb6 := hb.trans (below_but bu6 hwp hb.size)
          unfold hv
          go_wp2_with fail
          refine (rrHash_any w.heap.size q s _ hx6).mono ?_
          rintro en w7 ⟨rfl, hx7, bu7⟩
          have hr7 := hr6.side bu7 hpq
          have hb7 := hb6.trans (below_but bu7 (Nat.le_of_lt (Nat.lt_of_le_of_lt hwp hpq)) hb6.size)
          unfold hv
          have hl : (stHash s).1.length = 32 := stHash_len s
          have eh := eq_hash (stHash s).1 (stHash s).1 hl hl
          rw [show decide ((stHash s).1 = (stHash s).1) = true from by simp] at eh
          have HL := Lib.hid hl
          clear hl
          generalize (stHash s).2 = s' at *
          generalize (stHash s).1 = v at *
          go_wp2_with fail
          refine (rEnd_any p s' _ hr7).mono ?_
          rintro en w' ⟨rfl, rfl⟩
          go_wp2_with fail
          refine (rrEnd_any w.heap.size q s' _ hx7).mono ?_
          rintro en w8 ⟨rfl, hx8, bu8⟩
          have hr8 := hr7.side bu8 hpq
          have hb8 := hb7.trans (below_but bu8 (Nat.le_of_lt (Nat.lt_of_le_of_lt hwp hpq)) hb7.size)
          generalize stEnd s' = ve at *
          go_wp2_with fail
          go_roundw
          case rel => exact ⟨m + 1, s', by go_num, by omega, hr8, hx8, hb8⟩
          case measure => simp [intOf]; omega
        · have t6 : -9223372036854775808 ≤ z.tdiv 7 ∧ z.tdiv 7 < 9223372036854775808 := by
            rw [Int.tdiv_eq_ediv, show Int.sign 7 = 1 from rfl]
            split <;> omega
          have f20 := Int.emod_nonneg (z.tdiv 7) (show (20 : Int) ≠ 0 by decide)
          have f20' := Int.emod_lt_of_pos (z.tdiv 7) (show (0 : Int) < 20 by decide)
          go_wp2_with fail
          refine (within_any (z.tdiv 7) 20 _ (by omega) (by omega) t6.1 t6.2).mono ?_
          rintro en w' ⟨rfl, rfl⟩
          generalize hf : z.tdiv 7 % 20 = f at *
          have HF := Lib.hid hf
          clear hf
          go_wp2_with fail
          refine (rFail_any p s f _ hr).mono ?_
          rintro en w6 ⟨rfl, hr6, bu6⟩
          have hx6 := hx.side bu6 hwp (by omega)
          have hb6 := hb.trans (below_but bu6 hwp hb.size)
          have cz6 := CZ.out w6 hb6
          go_wp2_with fail
          refine (within_any (z.tdiv 7) 20 _ (by omega) (by omega) t6.1 t6.2).mono ?_
          rintro en w' ⟨rfl, rfl⟩
          rw [HF.out]
          go_wp2_with fail
          refine (rrFail_any w.heap.size q s f _ hx6).mono ?_
          rintro en w7 ⟨rfl, hx7, bu7⟩
          have hr7 := hr6.side bu7 hpq
          have hb7 := hb6.trans (below_but bu7 (Nat.le_of_lt (Nat.lt_of_le_of_lt hwp hpq)) hb6.size)
          generalize stFail s f = s' at *
          go_wp2_with fail
          refine (rEnd_any p s' _ hr7).mono ?_
          rintro en w' ⟨rfl, rfl⟩
          go_wp2_with fail
          refine (rrEnd_any w.heap.size q s' _ hx7).mono ?_
          rintro en w8 ⟨rfl, hx8, bu8⟩
          have hr8 := hr7.side bu8 hpq
          have hb8 := hb7.trans (below_but bu8 (Nat.le_of_lt (Nat.lt_of_le_of_lt hwp hpq)) hb7.size)
          generalize stEnd s' = ve at *
          go_wp2_with fail
          go_roundw
          case rel => exact ⟨m + 1, s', by go_num, by omega, hr8, hx8, hb8⟩
          case measure => simp [intOf]; omega
      · go_wp2_with fail
        all_goals
          refine (rEnd_any p s _ hr).mono ?_
          rintro en w' ⟨rfl, rfl⟩
          go_wp2_with fail
          refine (rrEnd_any w.heap.size q s _ hx).mono ?_
          rintro en w7 ⟨rfl, hx7, bu7⟩
          have hb7 := hb.trans (below_but bu7 (Nat.le_of_lt (Nat.lt_of_le_of_lt hwp hpq)) hb.size)
          generalize stEnd s = v at *
          go_wp2_with fail
          go_ret
          exact ⟨rfl, hb7⟩
end Go.Proofs.Ytoecbgdkbncfbaa
