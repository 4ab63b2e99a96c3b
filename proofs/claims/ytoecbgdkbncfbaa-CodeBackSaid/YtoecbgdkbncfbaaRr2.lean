/- Walks: the document's reader: New, Fail, End, Text. -/
import Derived.Test.YtoecbgdkbncfbaaRr
namespace Go.Proofs.Ytoecbgdkbncfbaa
open Go.RowKit
def RrNew (H : Nat) (w : World) (l : List UInt8) (en : Ending) (w' : World) : Prop := ∃ p, en = .returned (.pointer (some ⟨p, 0, none⟩)) ∧ w.heap.size ≤ p ∧ Rr H w' p l 0 ∧ Below w.heap.size w w'
theorem rrNew_any (H : Nat) (A : Option Addr) (n c : Nat) (l : List UInt8) (w : World) (h : Sl w 1 A n (B8 l)) (hnc : n ≤ c) (hc : (n ≤ 1099511627776 ∧ c ≤ 9223372036854775807)) (hH : H ≤ w.heap.size) (hsp : Away A H) :
    Calls Try.prog 24 #[.slice A n c] w (RrNew H w l) := by
  go_enter Try.func24, Try.ntmps24
  go_wp2_with fail
  go_ret
  refine ⟨w.heap.size, rfl, Nat.le_refl _, ⟨A, n, c, 0, l, ?_, hnc, hc, h.alloc _, ?_, Nat.zero_le _, fun _ => by simp⟩, (Below.refl _ _).alloc (Nat.le_refl _) _⟩
  · unfold RrC
    exact heap_alloc_new w _
  · exact ⟨hsp, hH⟩
theorem rrFail_any (H p : Nat) (s : List UInt8 × Int) (f : Int) (w : World) (hr : Rr H w p s.1 s.2) :
    Calls Try.prog 30 #[.pointer (some ⟨p, 0, none⟩), .int .i64 f] w (RFr H w p (.tuple #[]) (stFail s f)) := by
  obtain ⟨rest, e⟩ := s
  obtain ⟨A, n, c, P, bs, hc, hnc, hcm, hs, hAH, hP, hx⟩ := hr
  have hA := hAH.away
  dsimp only at hc hx
  have c2 := hc.c2
  have fz := hc.fz 2
  by_cases h0 : e = 0
  · subst h0
    have hs2 := hc.set2 f
    have sws := hs.but2 (RBut.setC w p 2 (.int .i64 f)) (away_ne hA)
    have hst : stFail (rest, 0) f = (rest, f) := by simp [stFail]
    have HST := Lib.hid hst
    have hxr := hx rfl
    have HX := Lib.hid hxr
    clear hst hx hxr
    go_enter Try.func30, Try.ntmps30
    go_wp2_with fail
    rw [HST.out]
    go_end0
    exact ⟨rfl, ⟨A, n, c, P, bs, hs2, hnc, hcm, sws, hAH, hP, fun _ => HX.out⟩, RBut.setC _ _ _ _⟩
  · have hst : stFail (rest, e) f = (rest, e) := by simp [stFail, h0]
    have HST := Lib.hid hst
    have t0 : (e == 0) = false := by simpa using h0
    have PF : Rr H w p rest e := Rr.err hc hnc hcm hs hAH hP h0
    clear hst hx
    go_enter Try.func30, Try.ntmps30
    go_wp2_with fail
    rw [HST.out]
    go_end0
    exact ⟨rfl, PF, RBut.refl_ _ _⟩
theorem rrEnd_any (H p : Nat) (s : List UInt8 × Int) (w : World) (hr : Rr H w p s.1 s.2) :
    Calls Try.prog 31 #[.pointer (some ⟨p, 0, none⟩)] w (RFr H w p (.int .i64 (stEnd s)) s) := by
  obtain ⟨rest, e⟩ := s
  obtain ⟨A, n, c, P, bs, hc, hnc, hcm, hs, hAH, hP, hx⟩ := hr
  have hA := hAH.away
  dsimp only at hc hx
  have hcd := hc.drew
  have hsd := hs.drew
  have fin : RBut (some p) w w.drew := RBut.of_below (Below.refl _ _).drew
  by_cases h0 : e = 0
  · subst h0
    have hxr := hx rfl
    have hn8 := hs.len8
    have hst : stEnd (rest, 0) = if P < n then 9 else 0 := by
      unfold stEnd endOf
      rw [if_pos rfl, hxr, List.length_drop, ← hn8]
      by_cases h : P < n
      · rw [if_pos h, if_neg (by omega)]
      · rw [if_neg h, if_pos (by omega)]
    have HST := Lib.hid hst
    have PF : Hid (RFr H w p (.int .i64 (stEnd (rest, 0))) (rest, 0) (.returned (.int .i64 (stEnd (rest, 0)))) w.drew) := ⟨rfl, ⟨A, n, c, P, bs, hcd, hnc, hcm, hsd, hAH, hP, fun _ => hxr⟩, fin⟩
    clear hst hx hxr hn8 fin hsd
    by_cases hpn : P < n
    all_goals
      first
        | (have t1 : (P : Int) < (n : Int) := by omega)
        | (have t1 : ¬ (P : Int) < (n : Int) := by omega)
      go_enter Try.func31, Try.ntmps31
      go_wp2_with fail
      refine wp_region_C [(0, false), (1, false), (2, false), (3, false), (4, false), (5, false), (6, true), (7, true), (8, true), (9, true), (10, false), (11, false), (12, false), (13, false), (14, false), (15, false), (16, false)] RBel (by kernel_rfl) (by kernel_rfl) (by kernel_rfl) (by decide) RBel.refl_ RBel.trans_ (by intro d v c a w h; cases d <;> exact h) ?_
      generalize w.drew = wd at *
      have hcw : ∀ w', RBel wd w' → RrC w' p A n c P 0 := fun w' hw' => hcd.keep (hw'.block p hcd.lt)
      have c0 := fun w' hw' => (hcw w' hw').c0
      have c1 := fun w' hw' => (hcw w' hw').c1
      have d0 := hcd.c0
      have d1 := hcd.c1
      have d2 := hcd.c2
      repeat (first | (refine wpC_quiet (v := ?_) rfl (by rfl) ?_ ?_; rotate_left; (· (intro w' hw'; go_simp; try with_reducible rfl)); simp only [Act.put, List.setIfInBounds_toArray, List.set_cons_zero, List.set_cons_succ]) | (refine wpC_val (v := ?_) (RBel.refl_) rfl (by rfl) ?_ ?_; rotate_left; (· (go_simp; try with_reducible rfl)); simp only [Act.put, List.setIfInBounds_toArray, List.set_cons_zero, List.set_cons_succ]) | (refine wpC_skip rfl (by rfl) ?_; simp only [Act.put, List.setIfInBounds_toArray, List.set_cons_zero, List.set_cons_succ]) | (refine wpC_skip' (RBel.refl_) rfl (by rfl) ?_; simp only [Act.put, List.setIfInBounds_toArray, List.set_cons_zero, List.set_cons_succ]))
      refine wpC_nil ?_
      clear c0 c1 hcw
      go_wp2_with fail
      go_ret
      first
        | (rw [if_pos hpn] at HST; have P1 := PF.out; rw [HST.out] at P1 ⊢; exact P1)
        | (rw [if_neg hpn] at HST; have P1 := PF.out; rw [HST.out] at P1 ⊢; exact P1)
  · have hst : stEnd (rest, e) = e := by simp [stEnd, h0]
    have HST := Lib.hid hst
    have t0 : (e == 0) = false := by simpa using h0
    have PF : Hid (Rr H w.drew p rest e) := Rr.err hcd hnc hcm hsd hAH hP h0
    clear hst hx hsd
    go_enter Try.func31, Try.ntmps31
    go_wp2_with fail
    refine wp_region_C [(0, false), (1, false), (2, false), (3, false), (4, false), (5, false), (6, true), (7, true), (8, true), (9, true), (10, false), (11, false), (12, false), (13, false), (14, false), (15, false), (16, false)] RBel (by kernel_rfl) (by kernel_rfl) (by kernel_rfl) (by decide) RBel.refl_ RBel.trans_ (by intro d v c a w h; cases d <;> exact h) ?_
    generalize w.drew = wd at *
    have d2 := hcd.c2
    repeat (first | (refine wpC_quiet (v := ?_) rfl (by rfl) ?_ ?_; rotate_left; (· (intro w' hw'; go_simp; try with_reducible rfl)); simp only [Act.put, List.setIfInBounds_toArray, List.set_cons_zero, List.set_cons_succ]) | (refine wpC_val (v := ?_) (RBel.refl_) rfl (by rfl) ?_ ?_; rotate_left; (· (go_simp; try with_reducible rfl)); simp only [Act.put, List.setIfInBounds_toArray, List.set_cons_zero, List.set_cons_succ]) | (refine wpC_skip rfl (by rfl) ?_; simp only [Act.put, List.setIfInBounds_toArray, List.set_cons_zero, List.set_cons_succ]) | (refine wpC_skip' (RBel.refl_) rfl (by rfl) ?_; simp only [Act.put, List.setIfInBounds_toArray, List.set_cons_zero, List.set_cons_succ]))
    refine wpC_nil ?_
    go_wp2_with fail
    go_ret
    rw [HST.out]
    exact ⟨rfl, PF.out, fin⟩
end Go.Proofs.Ytoecbgdkbncfbaa
