/- Walks: the reader's faces Text, Hash. -/
import Derived.Test.YtoecbgdkbncfbaaRead2

namespace Go.Proofs.Ytoecbgdkbncfbaa
open Go.RowKit

/-- bytes, by their face -/
def stText (s : List UInt8 × Int) : List UInt8 × (List UInt8 × Int) :=
  if s.2 = 0 then
    match dec 0 0 s.1 with
    | .ok u l => if zag u < 0 ∨ 65535 < zag u then ([], ([], 4)) else if l.length < (zag u).toNat then ([], ([], 8)) else (l.take (zag u).toNat, (l.drop (zag u).toNat, 0))
    | .cut => ([], ([], 8))
    | .bad => ([], ([], 10))
  else ([], s)
theorem stText_cut {rest : List UInt8} (h : dec 0 0 rest = .cut) : stText (rest, 0) = ([], ([], 8)) := by simp [stText, h]
theorem stText_bad {rest : List UInt8} (h : dec 0 0 rest = .bad) : stText (rest, 0) = ([], ([], 10)) := by simp [stText, h]
def RText (w : World) (p : Nat) (out : List UInt8) (s : List UInt8 × Int) (en : Ending) (w' : World) : Prop :=
  ∃ A n c, en = .returned (.slice A n c) ∧ Own w' w.heap.size 5 1 A n c (B8 out) ∧ Rd w' p s.1 s.2 ∧ RBut (some p) w w'

set_option maxHeartbeats 1000000 in
theorem rText_any (p : Nat) (s : List UInt8 × Int) (w : World) (hr : Rd w p s.1 s.2) :
    Calls Try.prog 23 #[.pointer (some ⟨p, 0, none⟩)] w (RText w p (stText s).1 (stText s).2) := by
  obtain ⟨rest, e⟩ := s
  have hp := hr.lt
  have hr1 := hr.keep ((Below.refl w.heap.size w).alloc (Nat.le_refl _) (.cells #[.pointer (some ⟨p, 0, none⟩)] 33))
  have bx : (w.alloc (.cells #[.pointer (some ⟨p, 0, none⟩)] 33)).cell? ⟨w.heap.size, 0, none⟩ = some (.pointer (some ⟨p, 0, none⟩)) := by
    rw [cell_of_row _ w.heap.size 0 _ _ _ (heap_alloc_new w _)]; rfl
  have b0 : RBut (some p) w (w.alloc (.cells #[.pointer (some ⟨p, 0, none⟩)] 33)) := RBut.of_below ((Below.refl _ _).alloc (Nat.le_refl _) _)
  have hlt : w.heap.size < (w.alloc (.cells #[.pointer (some ⟨p, 0, none⟩)] 33)).heap.size := by simp
  obtain ⟨A, n, c, hc, hx⟩ := hr
  have c1 := hc.c1
  have hmf : ∀ (fn : Fn) (first cap : Array Value) (w : World), (Instr.makeFunc fn first cap).run Try.prog w = .ok (.func fn first cap) w := fun _ _ _ _ => rfl
  by_cases h0 : e = 0
  · subst h0
    clear hx
    have NP := Lib.hid (number_any p rest _ hr1)
    have hN : ∀ en w', NumPost (w.alloc (.cells #[.pointer (some ⟨p, 0, none⟩)] 33)) p rest en w' → (match dec 0 0 rest with
      | .ok u l => en = .returned (.int .i64 (zag u)) ∧ Rd w' p l 0 ∧ RBut (some p) (w.alloc (.cells #[.pointer (some ⟨p, 0, none⟩)] 33)) w'
      | .cut => en = .panicked (wrongP 8) ∧ (∃ l', Rd w' p l' 0) ∧ RBut (some p) (w.alloc (.cells #[.pointer (some ⟨p, 0, none⟩)] 33)) w'
      | .bad => en = .panicked (wrongP 10) ∧ (∃ l', Rd w' p l' 0) ∧ RBut (some p) (w.alloc (.cells #[.pointer (some ⟨p, 0, none⟩)] 33)) w') := fun en w' h => h
    have HN := Lib.hid hN
    clear hN
    rcases hd : dec 0 0 rest with ⟨u, l⟩ | _ | _
    · rw [hd] at HN
      dsimp only at HN
      have hu := dec_lt rest 0 0 u l (by decide) (by decide) hd
      have hz1 := zag_lo hu
      have hz2 := zag_hi hu
      have hT : stText (rest, 0) = if zag u < 0 ∨ 65535 < zag u then ([], ([], 4)) else if l.length < (zag u).toNat then ([], ([], 8)) else (l.take (zag u).toNat, (l.drop (zag u).toNat, 0)) := by simp [stText, hd]
      obtain ⟨z, hzz⟩ : ∃ z, z = zag u := ⟨_, rfl⟩
      rw [← hzz] at HN hz1 hz2 hT
      clear hd hu hzz
      by_cases hm : z < 0 ∨ 65535 < z
      · rw [hT, if_pos hm]
        clear hT
        go_enter_defers Try.func23, Try.ntmps23
        go_wp2_with fail
        refine NP.out.mono ?_
        clear hr1
        generalize w.alloc (.cells #[.pointer (some ⟨p, 0, none⟩)] 33) = W at *
        intro en w2 h2
        obtain ⟨rfl, ⟨A2, n2, c2, hc2, _⟩, hb2⟩ := HN.out en w2 h2
        clear h2 HN NP
        have q2 := (World.cell?_of_block (w' := w2) (a := ⟨w.heap.size, 0, none⟩) (hb2.block w.heap.size hlt (fun h => by injection h; omega))).trans bx
        dsimp only
        by_cases hz : z < 0
        all_goals
          go_wp2
          refine leaves_cons (f := 38) (args := #[.pointer (some ⟨w.heap.size, 0, none⟩)]) (by simp) (by simp [go_sem]) ?_
          refine (text1_catch p w.heap.size A2 n2 c2 0 4 _ q2 hc2).mono ?_
          rintro en u' w'' ⟨rfl, rfl, hc3, hb3⟩
          simp only [firstErr, if_true] at hc3
          have fin := RBut.trans_ _ _ _ _ b0 (RBut.trans_ _ _ _ _ hb2 hb3)
          have fin2 := hc3.err (rest := []) (by decide)
          simp [Leaves, settle, results, Try.results23, go_sem]
          exact ⟨_, _, _, rfl, Own.nil_, fin2, fin⟩
      · rw [hT, if_neg hm]
        clear hT
        obtain ⟨k, rfl⟩ : ∃ k : Nat, z = (k : Int) := ⟨z.toNat, by omega⟩
        have hk1 : k ≤ 65535 := by omega
        have t1 : ¬ (k : Int) < 0 := by omega
        have t2 : ¬ (65535 : Int) < (k : Int) := by omega
        rw [Int.toNat_natCast]
        clear hm hz1 hz2
        by_cases hlk : l.length < k
        · rw [if_pos hlk]
          go_enter_defers Try.func23, Try.ntmps23
          go_wp2_with fail
          refine NP.out.mono ?_
          clear hr1
          generalize w.alloc (.cells #[.pointer (some ⟨p, 0, none⟩)] 33) = W at *
          intro en w2 h2
          obtain ⟨rfl, ⟨A2, n2, c2, hc2, hx2⟩, hb2⟩ := HN.out en w2 h2
          obtain ⟨_, _, hs2, _⟩ := hx2 rfl
          have hn2 := hs2.len8
          clear h2 HN NP hx2 hs2
          have q2 := (World.cell?_of_block (w' := w2) (a := ⟨w.heap.size, 0, none⟩) (hb2.block w.heap.size hlt (fun h => by injection h; omega))).trans bx
          have TC := Lib.hid (take_cut p A2 n2 c2 k w2 hc2 (by omega))
          clear hn2
          dsimp only
          go_wp2_with fail
          refine TC.out.mono ?_
          rintro en w3 ⟨rfl, rfl⟩
          dsimp only
          refine leaves_cons (f := 38) (args := #[.pointer (some ⟨w.heap.size, 0, none⟩)]) (by simp) (by simp [go_sem]) ?_
          refine (text1_catch p w.heap.size A2 n2 c2 0 8 _ q2 hc2).mono ?_
          rintro en u' w'' ⟨rfl, rfl, hc3, hb3⟩
          simp only [firstErr, if_true] at hc3
          have fin := RBut.trans_ _ _ _ _ b0 (RBut.trans_ _ _ _ _ hb2 hb3)
          have fin2 := hc3.err (rest := []) (by decide)
          simp [Leaves, settle, results, Try.results23, go_sem]
          exact ⟨_, _, _, rfl, Own.nil_, fin2, fin⟩
        · rw [if_neg hlk]
          go_enter_defers Try.func23, Try.ntmps23
          go_wp2_with fail
          refine NP.out.mono ?_
          clear hr1
          generalize w.alloc (.cells #[.pointer (some ⟨p, 0, none⟩)] 33) = W at *
          intro en w2 h2
          obtain ⟨rfl, ⟨A2, n2, c2, hc2, hx2⟩, hb2⟩ := HN.out en w2 h2
          obtain ⟨hnc2, hc63, hs2, hA2⟩ := hx2 rfl
          have hn2 := hs2.len8
          have q2 := (World.cell?_of_block (w' := w2) (a := ⟨w.heap.size, 0, none⟩) (hb2.block w.heap.size hlt (fun h => by injection h; omega))).trans bx
          have hlt2 := Nat.lt_of_lt_of_le hlt hb2.size
          have TK := Lib.hid (take_ok p A2 n2 c2 k l w2 hc2 hnc2 hs2 hA2 (by omega) hc63)
          clear h2 HN NP hx2 hs2 hn2 hc2 hnc2 hc63 hA2
          dsimp only
          go_wp2_with fail
          refine TK.out.mono ?_
          rintro en w3 ⟨rfl, hs3, hr3, hb3, _⟩
          have q3 := (World.cell?_of_block (w' := w3) (a := ⟨w.heap.size, 0, none⟩) (hb3.block w.heap.size hlt2 (fun h => by injection h; omega))).trans q2
          have hlt3 := Nat.lt_of_lt_of_le hlt2 hb3.size
          clear TK
          dsimp only
          go_wp2_with fail
          refine (clone_B A2 k c2 _ _ hs3 (B8_one _) (by omega)).mono ?_
          rintro en w4 ⟨A4, n4, c4, rfl, ho4, hb4⟩
          have q4 := (hb4.cell (p := ⟨w.heap.size, 0, none⟩) hlt3).trans q3
          have hr4 := hr3.keep hb4
          have hsz : w.heap.size ≤ w3.heap.size := Nat.le_of_lt hlt3
          go_wp2
          refine leaves_cons (f := 38) (args := #[.pointer (some ⟨w.heap.size, 0, none⟩)]) (by simp) (by simp [go_sem]) ?_
          refine (text1_idle p w.heap.size _ q4).mono ?_
          rintro en u' w'' ⟨rfl, rfl, rfl⟩
          exact ⟨_, results_tmp rfl _ _ _, _, _, _, rfl, (ho4.drew).mono hsz, hr4.keep (Below.refl _ _).drew, RBut.trans_ _ _ _ _ b0 (RBut.trans_ _ _ _ _ hb2 (RBut.trans_ _ _ _ _ hb3 (RBut.trans_ _ _ _ _ (RBut.of_below hb4) (RBut.of_below (Below.refl _ _).drew))))⟩
    all_goals
      first
        | (rw [stText_cut hd])
        | (rw [stText_bad hd])
      rw [hd] at HN
      clear hd
      go_enter_defers Try.func23, Try.ntmps23
      go_wp2_with fail
      refine NP.out.mono ?_
      clear hr1
      generalize w.alloc (.cells #[.pointer (some ⟨p, 0, none⟩)] 33) = W at *
      intro en w2 h2
      obtain ⟨rfl, ⟨l', A2, n2, c2, hc2, _⟩, hb2⟩ := HN.out en w2 h2
      clear h2 HN NP
      have q2 := (World.cell?_of_block (w' := w2) (a := ⟨w.heap.size, 0, none⟩) (hb2.block w.heap.size hlt (fun h => by injection h; omega))).trans bx
      dsimp only
      refine leaves_cons (f := 38) (args := #[.pointer (some ⟨w.heap.size, 0, none⟩)]) (by simp) (by simp [go_sem]) ?_
      refine (text1_catch p w.heap.size A2 n2 c2 0 _ _ q2 hc2).mono ?_
      rintro en u' w'' ⟨rfl, rfl, hc3, hb3⟩
      simp only [firstErr, if_true] at hc3
      have fin := RBut.trans_ _ _ _ _ b0 (RBut.trans_ _ _ _ _ hb2 hb3)
      have fin2 := hc3.err (rest := []) (by decide)
      simp [Leaves, settle, results, Try.results23, go_sem]
      exact ⟨_, _, _, rfl, Own.nil_, fin2, fin⟩
  · have t1 : (e != 0) = true := by simpa using h0
    rw [show stText (rest, e) = ([], (rest, e)) by simp [stText, h0]]
    clear hx h0
    go_enter_defers Try.func23, Try.ntmps23
    go_wp2
    refine leaves_cons (f := 38) (args := #[.pointer (some ⟨w.heap.size, 0, none⟩)]) (by simp) (by simp [go_sem]) ?_
    refine (text1_idle p w.heap.size _ bx).mono ?_
    rintro e u' w'' ⟨rfl, rfl, rfl⟩
    exact ⟨_, results_tmp rfl _ _ _, _, _, _, rfl, Own.nil_, hr1.keep (Below.refl _ _).drew, RBut.trans_ _ _ _ _ b0 (RBut.of_below (Below.refl _ _).drew)⟩
end Go.Proofs.Ytoecbgdkbncfbaa
