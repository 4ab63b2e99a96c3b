/- Walks: the document's reader (capstanref1.Reader): New, Int. -/
import Derived.Test.YtoecbgdkbncfbaaRead5
import Derived.StillTailTactics
namespace Go.Proofs.Ytoecbgdkbncfbaa
open Go.RowKit
def RrC (w : World) (p : Nat) (A : Option Addr) (n c P : Nat) (e : Int) : Prop := w.heap[p]? = some (.cells #[.slice A n c, .int .i64 (P : Int), .int .i64 e] 62 (0, 0))
/-- A slice whose block lies below H, and H not above the reader's own block. -/
def AwayH (A : Option Addr) (H p : Nat) : Prop := Away A H ∧ H ≤ p
theorem AwayH.away {A : Option Addr} {H p : Nat} (h : AwayH A H p) : Away A p := by
  rcases h.1 with h1 | ⟨b, o, h1, h2⟩
  · exact .inl h1
  · exact .inr ⟨b, o, h1, Nat.lt_of_lt_of_le h2 h.2⟩
/-- The document's reader: what is left, its error. -/
def Rr (H : Nat) (w : World) (p : Nat) (rest : List UInt8) (e : Int) : Prop :=
  ∃ (A : Option Addr) (n c P : Nat) (bs : List UInt8), RrC w p A n c P e ∧ n ≤ c ∧ (n ≤ 1099511627776 ∧ c ≤ 9223372036854775807) ∧ Sl w 1 A n (B8 bs) ∧ AwayH A H p ∧ P ≤ n ∧ (e = 0 → rest = bs.drop P)
section
variable {w w' : World} {p : Nat} {A : Option Addr} {n c P : Nat} {e : Int}
theorem RrC.lt (h : RrC w p A n c P e) : p < w.heap.size := (Array.getElem?_eq_some_iff.1 h).1
theorem RrC.c0 (h : RrC w p A n c P e) : w.cell? ⟨p, 0, none⟩ = some (.slice A n c) := by rw [cell_of_row w p 0 _ _ _ h]; rfl
theorem RrC.c1 (h : RrC w p A n c P e) : w.cell? ⟨p, 1, none⟩ = some (.int .i64 (P : Int)) := by rw [cell_of_row w p 1 _ _ _ h]; rfl
theorem RrC.c2 (h : RrC w p A n c P e) : w.cell? ⟨p, 2, none⟩ = some (.int .i64 e) := by rw [cell_of_row w p 2 _ _ _ h]; rfl
theorem RrC.fz (h : RrC w p A n c P e) (i : Nat) : w.frozen? ⟨p, i, none⟩ = false := by unfold RrC at h; simp [World.frozen?, h]
theorem RrC.set1 (h : RrC w p A n c P e) (P' : Nat) : RrC (w.setCell ⟨p, 1, none⟩ (.int .i64 (P' : Int))) p A n c P' e := by
  unfold RrC at h ⊢
  simp [World.setCell, Array.getElem?_modify, h]
theorem RrC.set2 (h : RrC w p A n c P e) (e' : Int) : RrC (w.setCell ⟨p, 2, none⟩ (.int .i64 e')) p A n c P e' := by
  unfold RrC at h ⊢
  simp [World.setCell, Array.getElem?_modify, h]
theorem RrC.keep (h : RrC w p A n c P e) (hb : w'.heap[p]? = w.heap[p]?) : RrC w' p A n c P e := hb.trans h
theorem RrC.drew (h : RrC w p A n c P e) : RrC w.drew p A n c P e := h
theorem away_ne {A : Option Addr} {p : Nat} (h : Away A p) : ∀ b, A.map (·.block) = some b → some b ≠ some p := by
  intro b hb he
  injection he with he
  rcases h with rfl | ⟨b', o, rfl, hne⟩
  · cases hb
  · simp at hb; omega
end
def RFr (H : Nat) (w : World) (p : Nat) (v : Value) (s : List UInt8 × Int) (en : Ending) (w' : World) : Prop := en = .returned v ∧ Rr H w' p s.1 s.2 ∧ RBut (some p) w w'
theorem Rr.err {H : Nat} {w : World} {p : Nat} {A : Option Addr} {n c P : Nat} {bs rest : List UInt8} {e : Int} (h : RrC w p A n c P e) (h1 : n ≤ c) (h2 : (n ≤ 1099511627776 ∧ c ≤ 9223372036854775807)) (h3 : Sl w 1 A n (B8 bs)) (h4 : AwayH A H p) (h5 : P ≤ n) (he : e ≠ 0) : Rr H w p rest e :=
  ⟨A, n, c, P, bs, h, h1, h2, h3, h4, h5, fun h => absurd h he⟩
theorem and127 (y : Nat) (hy : y < 256) : bits .and .u8 (y : Int) 127 = ((y % 128 : Nat) : Int) := by
  rw [show (127 : Int) = ((127 : Nat) : Int) from rfl, u8_and_nat y 127 (by omega) (by omega)]
  have e := Nat.and_two_pow_sub_one_eq_mod y 7
  simp only [Nat.reducePow, Nat.reduceSub] at e
  rw [e]
theorem and1 (v : Nat) (hv : v < 18446744073709551616) : bits .and .u64 (v : Int) 1 = ((v % 2 : Nat) : Int) := by
  rw [show (1 : Int) = ((1 : Nat) : Int) from rfl, u64_and_nat v 1 (by omega) (by omega)]
  have e := Nat.and_two_pow_sub_one_eq_mod v 1
  simp only [Nat.reducePow, Nat.reduceSub] at e
  rw [e]
set_option maxRecDepth 100000 in
set_option maxHeartbeats 2000000 in
theorem rrInt_any (H p : Nat) (s : List UInt8 × Int) (w : World) (hr : Rr H w p s.1 s.2) :
    Calls Try.prog 25 #[.pointer (some ⟨p, 0, none⟩)] w (RFr H w p (.int .i64 (stInt s).1) (stInt s).2) := by
  obtain ⟨rest, e⟩ := s
  obtain ⟨A, n, c, P, bs, hc, hnc, hcm, hs, hAH, hP, hx⟩ := hr
  have hA := hAH.away
  dsimp only at hc hx
  by_cases h0 : e = 0
  · subst h0
    have hrest := hx rfl
    clear hx
    go_enter Try.func25, Try.ntmps25
    go_wp2_with fail
    go_loopw [3, 4] (fun u k wr => ∃ (acc j P : Nat), u = .int .u64 acc ∧ k = .int .i64 j ∧ j ≤ 9 ∧ acc < 128 ^ j ∧ P ≤ n ∧ dec 0 0 rest = dec j acc (bs.drop P) ∧ RrC wr p A n c P 0 ∧ RBut (some p) w wr) (fun _ k _ => 9 - (intOf k).toNat)
    case atStart => exact ⟨0, 0, P, rfl, rfl, by omega, by decide, hP, by rw [hrest], hc, RBut.refl_ _ _⟩
    case round =>
      clear hc hP hrest
      obtain ⟨acc, j, P, rfl, rfl, hj, hacc, hP, hd, hc, hbut⟩ := hrel
      have HD := Lib.hid hd
      have HAcc := Lib.hid hacc
      have hn8 := hs.len8
      have sw := hs.but2 hbut (away_ne hA)
      have HN8 := Lib.hid hn8
      clear hd hacc hn8
      go_wp2_with fail
      have hcd := hc.drew
      have hbutd : RBut (some p) w wr.drew := RBut.trans_ _ _ _ _ hbut (RBut.of_below (Below.refl _ _).drew)
      have swd := sw.drew
      by_cases hpn : P < n
      · have t1 : ¬ (n : Int) ≤ (P : Int) := by omega
        obtain ⟨x, hx⟩ : ∃ x, bs[P]? = some x := ⟨_, List.getElem?_eq_getElem (by rw [← HN8.out]; exact hpn)⟩
        have hdr : bs.drop P = x :: bs.drop (P + 1) := by
          obtain ⟨hl, he⟩ := List.getElem?_eq_some_iff.1 hx
          rw [List.drop_eq_getElem_cons hl, he]
        obtain ⟨bA, oA, rfl, hbA⟩ := swd.some_ (by omega)
        have hne : bA ≠ p := by
          rcases hA with h | ⟨b', o', h, h2⟩
          · cases h
          · injection h with h; injection h with h; omega
        rw [hdr] at HD
        refine wp_region_C [(0, false), (1, false), (2, false), (3, false), (4, false), (5, false), (6, true), (7, true), (8, true), (9, true), (10, false), (11, false), (12, false), (13, false), (14, false), (15, false), (16, false)] RBel (by kernel_rfl) (by kernel_rfl) (by kernel_rfl) (by decide) RBel.refl_ RBel.trans_ (by intro d v c a w h; cases d <;> exact h) ?_
        clear hc hbut sw
        generalize wr.drew = wd at *
        have hcw : ∀ w', RBel wd w' → RrC w' p (some ⟨bA, oA, none⟩) n c P 0 := fun w' hw' => hcd.keep (hw'.block p hcd.lt)
        have c0 := fun w' hw' => (hcw w' hw').c0
        have c1 := fun w' hw' => (hcw w' hw').c1
        have d0 := hcd.c0
        have d1 := hcd.c1
        have d2 := hcd.c2
        repeat (first | (refine wpC_quiet (v := ?_) rfl (by rfl) ?_ ?_; rotate_left; (· (intro w' hw'; go_simp; try with_reducible rfl)); simp only [Act.put, List.setIfInBounds_toArray, List.set_cons_zero, List.set_cons_succ]) | (refine wpC_val (v := ?_) (RBel.refl_) rfl (by rfl) ?_ ?_; rotate_left; (· (go_simp; try with_reducible rfl)); simp only [Act.put, List.setIfInBounds_toArray, List.set_cons_zero, List.set_cons_succ]) | (refine wpC_skip rfl (by rfl) ?_; simp only [Act.put, List.setIfInBounds_toArray, List.set_cons_zero, List.set_cons_succ]) | (refine wpC_skip' (RBel.refl_) rfl (by rfl) ?_; simp only [Act.put, List.setIfInBounds_toArray, List.set_cons_zero, List.set_cons_succ]))
        refine wpC_nil ?_
        clear c0 c1 hcw
        go_wp2_with fail
        have hcd2 := hcd.drew
        have hbutd2 : RBut (some p) w wd.drew := RBut.trans_ _ _ _ _ hbutd (RBut.of_below (Below.refl _ _).drew)
        have f1 : wd.drew.cell? ⟨bA, oA + P, none⟩ = some (.int .u8 (x.toNat : Int)) := swd.drew.cell (k := P) (by simp [B8, b8, hx])
        have t3 : (P : Int) < (n : Int) := by omega
        refine wp_region_C [(0, true), (1, true), (2, true), (3, true), (4, false), (5, false), (6, false), (7, false), (8, false), (9, false), (10, false)] RBel (by kernel_rfl) (by kernel_rfl) (by kernel_rfl) (by decide) RBel.refl_ RBel.trans_ (by intro d v c a w h; cases d <;> exact h) ?_
        clear d0 d1 d2 swd hcd hbutd
        generalize wd.drew = we at *
        have hcw : ∀ w', RBel we w' → RrC w' p (some ⟨bA, oA, none⟩) n c P 0 := fun w' hw' => hcd2.keep (hw'.block p hcd2.lt)
        have c0 := fun w' hw' => (hcw w' hw').c0
        have c1 := fun w' hw' => (hcw w' hw').c1
        have d1 := hcd2.c1
        repeat (first | (refine wpC_quiet (v := ?_) rfl (by rfl) ?_ ?_; rotate_left; (· (intro w' hw'; go_simp; try with_reducible rfl)); simp only [Act.put, List.setIfInBounds_toArray, List.set_cons_zero, List.set_cons_succ]) | (refine wpC_val (v := ?_) (RBel.refl_) rfl (by rfl) ?_ ?_; rotate_left; (· (go_simp; try with_reducible rfl)); simp only [Act.put, List.setIfInBounds_toArray, List.set_cons_zero, List.set_cons_succ]) | (refine wpC_skip rfl (by rfl) ?_; simp only [Act.put, List.setIfInBounds_toArray, List.set_cons_zero, List.set_cons_succ]) | (refine wpC_skip' (RBel.refl_) rfl (by rfl) ?_; simp only [Act.put, List.setIfInBounds_toArray, List.set_cons_zero, List.set_cons_succ]))
        refine wpC_nil ?_
        clear c0 c1 hcw f1
        have fz1 := hcd2.fz 1
        have fz2 := hcd2.fz 2
        have d2 := hcd2.c2
        have hbsl := hs.but2 hbutd2 (away_ne hA)
        have hx256 := x.toNat_lt
        obtain ⟨P1, hP1⟩ : ∃ P1, P1 = P + 1 := ⟨_, rfl⟩
        have u1 : (P : Int) + 1 = (P1 : Int) := by omega
        have hP1n : P1 ≤ n := by omega
        rw [← hP1] at HD
        have hc1 := hcd2.set1 P1
        have hbut1 := RBut.trans_ _ _ _ _ hbutd2 (RBut.setC we p 1 (.int .i64 (P1 : Int)))
        have hs1 := hbsl.but2 (RBut.setC we p 1 (.int .i64 (P1 : Int))) (away_ne hA)
        have bad := fun h => HD.out.trans (dec_bad (c := x) (l := bs.drop P1) (acc := acc) (k := j) h)
        have last := fun h h1 => HD.out.trans (dec_last (c := x) (l := bs.drop P1) (acc := acc) (k := j) h h1)
        have more := fun h h1 => HD.out.trans (dec_more (c := x) (l := bs.drop P1) (acc := acc) (k := j) h h1)
        have Bad := Lib.hid bad
        have Last := Lib.hid last
        have More := Lib.hid more
        clear bad last more HD hx hdr hP1 hbutd2 hbsl hcd2
        generalize x.toNat = y at *
        by_cases hb : (j = 9 ∧ 1 < y) ∨ (0 < j ∧ y = 0)
        · have ST := Lib.hid (stInt_bad (Bad.out hb))
          clear Bad Last More HAcc
          have hs2 := hc1.set2 10
          have sws := hs1.but2 (RBut.setC (we.setCell ⟨p, 1, none⟩ (.int .i64 (P1 : Int))) p 2 (.int .i64 10)) (away_ne hA)
          have fin := RBut.trans_ _ _ _ _ hbut1 (RBut.setC (we.setCell ⟨p, 1, none⟩ (.int .i64 (P1 : Int))) p 2 (.int .i64 10))
          have PF : RFr H w p (.int .i64 0) ([], 10) (.returned (.int .i64 0)) ((we.setCell ⟨p, 1, none⟩ (.int .i64 (P1 : Int))).setCell ⟨p, 2, none⟩ (.int .i64 10)) := ⟨rfl, Rr.err hs2 hnc hcm sws hAH hP1n (by decide), fin⟩
          have HPF := Lib.hid PF
          clear hs2 sws fin PF hc1 hbut1 hs1
          by_cases h9 : j = 9
          · subst h9
            by_cases h1 : (1 : Int) < (y : Int)
            · go_wp2_with fail
              go_ret
              rw [ST.out]
              exact HPF.out
            · obtain rfl : y = 0 := by omega
              go_wp2_with fail
              go_ret
              rw [ST.out]
              exact HPF.out
          · have t9 : ((j : Int) == 9) = false := by simp; omega
            obtain rfl : y = 0 := by omega
            have t0 : (0 : Int) < (j : Int) := by omega
            clear h9
            go_wp2_with fail
            go_ret
            rw [ST.out]
            exact HPF.out
        · have HB := Lib.hid hb
          clear Bad
          have c9 : (((j : Int) == 9) = true ∧ ¬ (1 : Int) < (y : Int) ∧ 0 < j ∧ ((y : Int) == 0) = false ∧ ¬ y = 0) ∨ (((j : Int) == 9) = false ∧ ¬ 0 < j) ∨ (((j : Int) == 9) = false ∧ 0 < j ∧ ((y : Int) == 0) = false ∧ ¬ y = 0) := by
            simp
            omega
          obtain ⟨v, hv⟩ : ∃ v : Nat, v = acc + y % 128 * 128 ^ j := ⟨_, rfl⟩
          have hvlt : v < 18446744073709551616 := by rw [hv]; exact acc_lt acc y j hj (by omega) HAcc.out
          have E := acc_val acc y j hj (by omega) HAcc.out
          rw [← hv] at E
          have A7 := and127 y hx256
          rw [show ((y % 128 : Nat) : Int) = (y : Int) % 128 from by omega] at A7
          have V := Lib.hid hv
          have VL := Lib.hid hvlt
          have A1 := and1 v hvlt
          clear hb hv hvlt
          by_cases hy : y < 128
          · have ty : (y : Int) < 128 := by omega
            have HL := Last.out HB.out hy
            rw [← V.out] at HL
            have ST : Hid (stInt (rest, 0) = (zag v, (bs.drop P1, 0))) := (by show _ = _; simp [stInt, HL])
            have PF : Hid (Rr H (we.setCell ⟨p, 1, none⟩ (.int .i64 (P1 : Int))) p (bs.drop P1) 0 ∧ RBut (some p) w (we.setCell ⟨p, 1, none⟩ (.int .i64 (P1 : Int)))) := ⟨⟨_, n, c, P1, bs, hc1, hnc, hcm, hs1, hAH, hP1n, fun _ => rfl⟩, hbut1⟩
            clear HL Last More HAcc HB hc1 hbut1 hs1
            by_cases h2 : v % 2 = 1
            · have t2 : (((v : Int) % 2) == 1) = true := by simp; omega
              have z : Hid (zag v = -1 - (v : Int) / 2) := (by show _ = _; unfold zag; rw [if_pos h2]; omega)
              have A1' : bits .and .u64 (v : Int) 1 = 1 := by rw [A1, h2]; rfl
              clear h2 A1
              have vb : (v : Int) / 2 ≤ 9223372036854775807 := by have := VL.out; omega
              rcases c9 with ⟨q1, q2, q3, q4, q5⟩ | ⟨q1, q2⟩ | ⟨q1, q2, q3, q4⟩
              all_goals
                try dsimp only
                go_wp2_with fail
                go_ret
                rw [ST.out]
                exact ⟨(show Ending.returned (.int .i64 _) = _ from ret_int z.out.symm), PF.out⟩
            · have z : Hid (zag v = (v : Int) / 2) := (by show _ = _; unfold zag; rw [if_neg h2]; omega)
              have A1' : bits .and .u64 (v : Int) 1 = 0 := by rw [A1, show v % 2 = 0 from by omega]; rfl
              have vb : (v : Int) / 2 ≤ 9223372036854775807 := by have := VL.out; omega
              clear h2 A1
              rcases c9 with ⟨q1, q2, q3, q4, q5⟩ | ⟨q1, q2⟩ | ⟨q1, q2, q3, q4⟩
              all_goals
                try dsimp only
                go_wp2_with fail
                go_ret
                rw [ST.out]
                exact ⟨(show Ending.returned (.int .i64 _) = _ from ret_int z.out.symm), PF.out⟩
          · have ty : ¬ (y : Int) < 128 := by omega
            have HM := More.out HB.out hy
            rw [← V.out] at HM
            have hm := Lib.hid HM
            have hj9 : j < 9 := by have := HB.out; omega
            have hvl : v < 128 ^ (j + 1) := by
              have := HAcc.out
              have h1 : y % 128 * 128 ^ j ≤ 127 * 128 ^ j := Nat.mul_le_mul_right _ (by omega)
              rw [V.out, Nat.pow_succ]
              omega
            have Hvl := Lib.hid hvl
            clear HM Last More HAcc HB hvl A1
            rcases c9 with ⟨q1, q2, q3, q4, q5⟩ | ⟨q1, q2⟩ | ⟨q1, q2, q3, q4⟩
            · omega
            all_goals
              try dsimp only
              go_wp2_with fail
              go_roundw
              case rel => exact ⟨v, j + 1, P1, rfl, by go_num, by omega, Hvl.out, hP1n, hm.out, hc1, hbut1⟩
              case measure => simp [intOf]; omega
      · have t1 : (n : Int) ≤ (P : Int) := by omega
        have hdr : bs.drop P = [] := List.drop_eq_nil_of_le (by rw [← HN8.out]; omega)
        have hcut : dec 0 0 rest = .cut := by rw [HD.out, hdr, dec_nil]
        have ST := Lib.hid (stInt_cut hcut)
        refine wp_region_C [(0, false), (1, false), (2, false), (3, false), (4, false), (5, false), (6, true), (7, true), (8, true), (9, true), (10, false), (11, false), (12, false), (13, false), (14, false), (15, false), (16, false)] RBel (by kernel_rfl) (by kernel_rfl) (by kernel_rfl) (by decide) RBel.refl_ RBel.trans_ (by intro d v c a w h; cases d <;> exact h) ?_
        clear hc hbut sw hdr hcut
        generalize wr.drew = wd at *
        have hcw : ∀ w', RBel wd w' → RrC w' p A n c P 0 := fun w' hw' => hcd.keep (hw'.block p hcd.lt)
        have c0 := fun w' hw' => (hcw w' hw').c0
        have c1 := fun w' hw' => (hcw w' hw').c1
        have d0 := hcd.c0
        have d1 := hcd.c1
        have d2 := hcd.c2
        have fz := hcd.fz 2
        repeat (first | (refine wpC_quiet (v := ?_) rfl (by rfl) ?_ ?_; rotate_left; (· (intro w' hw'; go_simp; try with_reducible rfl)); simp only [Act.put, List.setIfInBounds_toArray, List.set_cons_zero, List.set_cons_succ]) | (refine wpC_val (v := ?_) (RBel.refl_) rfl (by rfl) ?_ ?_; rotate_left; (· (go_simp; try with_reducible rfl)); simp only [Act.put, List.setIfInBounds_toArray, List.set_cons_zero, List.set_cons_succ]) | (refine wpC_skip rfl (by rfl) ?_; simp only [Act.put, List.setIfInBounds_toArray, List.set_cons_zero, List.set_cons_succ]) | (refine wpC_skip' (RBel.refl_) rfl (by rfl) ?_; simp only [Act.put, List.setIfInBounds_toArray, List.set_cons_zero, List.set_cons_succ]))
        refine wpC_nil ?_
        clear c0 c1 hcw
        have hs2 := hcd.set2 8
        have sws := swd.but2 (RBut.setC wd p 2 (.int .i64 8)) (away_ne hA)
        have fin : RBut (some p) w (wd.setCell ⟨p, 2, none⟩ (.int .i64 8)) := RBut.trans_ _ _ _ _ hbutd (RBut.setC _ _ _ _)
        go_wp2_with fail
        go_ret
        rw [ST.out]
        exact ⟨rfl, Rr.err hs2 hnc hcm sws hAH hP (by decide), fin⟩
  · have hst : stInt (rest, e) = (0, (rest, e)) := by simp [stInt, h0]
    have t0 : (e == 0) = false := by simpa using h0
    have t1 : (e != 0) = true := by simpa using h0
    have HST := Lib.hid hst
    clear hst
    go_enter Try.func25, Try.ntmps25
    go_wp2_with fail
    go_loopw [3, 4] (fun u k wr => ∃ (acc j : Nat), u = .int .u64 acc ∧ k = .int .i64 j ∧ j = 0 ∧ acc = 0 ∧ wr = w) (fun _ k _ => 9 - (intOf k).toNat)
    case atStart => exact ⟨0, 0, rfl, rfl, rfl, rfl, rfl⟩
    case round =>
      obtain ⟨acc, j, rfl, rfl, rfl, rfl, rfl⟩ := hrel
      go_wp2_with fail
      refine wp_region_C [(0, false), (1, false), (2, false), (3, false), (4, false), (5, false), (6, true), (7, true), (8, true), (9, true), (10, false), (11, false), (12, false), (13, false), (14, false), (15, false), (16, false)] RBel (by kernel_rfl) (by kernel_rfl) (by kernel_rfl) (by decide) RBel.refl_ RBel.trans_ (by intro d v c a w h; cases d <;> exact h) ?_
      have hcd := hc.drew
      have hsd := hs.drew
      have fin : RBut (some p) wr wr.drew := RBut.of_below (Below.refl _ _).drew
      clear hc hs
      generalize wr.drew = wd at *
      have d2 := hcd.c2
      repeat (first | (refine wpC_quiet (v := ?_) rfl (by rfl) ?_ ?_; rotate_left; (· (intro w' hw'; go_simp; try with_reducible rfl)); simp only [Act.put, List.setIfInBounds_toArray, List.set_cons_zero, List.set_cons_succ]) | (refine wpC_val (v := ?_) (RBel.refl_) rfl (by rfl) ?_ ?_; rotate_left; (· (go_simp; try with_reducible rfl)); simp only [Act.put, List.setIfInBounds_toArray, List.set_cons_zero, List.set_cons_succ]) | (refine wpC_skip rfl (by rfl) ?_; simp only [Act.put, List.setIfInBounds_toArray, List.set_cons_zero, List.set_cons_succ]) | (refine wpC_skip' (RBel.refl_) rfl (by rfl) ?_; simp only [Act.put, List.setIfInBounds_toArray, List.set_cons_zero, List.set_cons_succ]))
      refine wpC_nil ?_
      go_wp2_with fail
      go_ret
      rw [HST.out]
      exact ⟨rfl, Rr.err hcd hnc hcm hsd hAH hP h0, fin⟩
end Go.Proofs.Ytoecbgdkbncfbaa
