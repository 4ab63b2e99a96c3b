/- Walks: the reader's faces Int, Text, Hash: what their insides panic with is caught. -/
import Derived.Test.YtoecbgdkbncfbaaRead
import Derived.Test.YtoecbgdkbncfbaaDefer
namespace Go.Proofs.Ytoecbgdkbncfbaa
open Go.RowKit

theorem caught_nil (p : Nat) (w : World) : Calls Try.prog 36 #[.pointer (some ⟨p, 0, none⟩), .nilIface] w fun e w' => e = .returned (.tuple #[]) ∧ w = w' := by
  go_enter Try.func36, Try.ntmps36
  go_wp2
  exact bodyPost_ret (results_none rfl _ _ _) rfl ⟨rfl, rfl⟩
theorem caught_own (p : Nat) (A : Option Addr) (n c : Nat) (e f : Int) (w : World) (hc : RdC w p A n c e) : Calls Try.prog 36 #[.pointer (some ⟨p, 0, none⟩), .iface 59 (.int .i64 f)] w fun en w' => en = .returned (.tuple #[]) ∧ RdC w' p A n c (firstErr e f) ∧ RBut (some p) w w' := by
  have hta : ∀ w, (Instr.typeAssert (.iface 59 (.int .i64 f)) 20 59 true).run Try.prog w = .ok (.tuple #[.int .i64 f, .bool true]) w := fun _ => by kernel_rfl
  go_enter Try.func36, Try.ntmps36
  go_wp2_with fail
  refine (fail_any p A n c e f w hc).mono ?_
  rintro en w1 ⟨rfl, h1, h2⟩
  go_wp2
  go_end0
  exact ⟨rfl, h1, h2⟩
theorem int1_idle (p q : Nat) (w : World) (hq : w.cell? ⟨q, 0, none⟩ = some (.pointer (some ⟨p, 0, none⟩))) :
    CallsD Try.prog 35 #[.pointer (some ⟨q, 0, none⟩)] .returning w fun e u' w' => e = .returned (.tuple #[]) ∧ u' = .returning ∧ w' = w.drew := by
  refine callsD_of_wpS Try.func35 rfl fun c₀ cs hu => ?_
  have hc0 : { c₀ with mode := .returning } = c₀ := by cases c₀; simp_all
  refine wpS_region3 (by kernel_rfl) rfl (by kernel_rfl) (by kernel_rfl) (by kernel_rfl) (by kernel_rfl) ?_ ?_
  all_goals
    simp [wpOpsS, go_sem, recoverD, hu, Try.ntmps35, hq]
    refine (caught_nil p w.drew).mono ?_
    rintro e w1 ⟨rfl, rfl⟩
    exact ⟨rfl, .returning, by rw [hc0], .tuple #[], by simp [results, Try.results35], rfl, rfl, rfl⟩
theorem int1_catch (p q : Nat) (A : Option Addr) (n c : Nat) (e f : Int) (w : World) (hq : w.cell? ⟨q, 0, none⟩ = some (.pointer (some ⟨p, 0, none⟩))) (hc : RdC w p A n c e) :
    CallsD Try.prog 35 #[.pointer (some ⟨q, 0, none⟩)] (.panicking (wrongP f)) w fun en u' w' =>
      en = .returned (.tuple #[]) ∧ u' = .panicking [{ v := .iface 59 (.int .i64 f), recovered := true }] ∧ RdC w' p A n c (firstErr e f) ∧ RBut (some p) w w' := by
  refine callsD_of_wpS Try.func35 rfl fun c₀ cs hu => ?_
  unfold wrongP at hu
  refine wpS_region3 (by kernel_rfl) rfl (by kernel_rfl) (by kernel_rfl) (by kernel_rfl) (by kernel_rfl) ?_ ?_
  all_goals
    simp [wpOpsS, go_sem, recoverD, hu, Try.ntmps35, hq]
    refine (caught_own p A n c e f w.drew hc).mono ?_
    rintro en w1 ⟨rfl, h1, h2⟩
    exact ⟨rfl, _, rfl, .tuple #[], by simp [results, Try.results35], rfl, rfl, h1, ⟨h2.os, h2.tape, h2.output, h2.size, h2.block⟩⟩
theorem text1_idle (p q : Nat) (w : World) (hq : w.cell? ⟨q, 0, none⟩ = some (.pointer (some ⟨p, 0, none⟩))) :
    CallsD Try.prog 38 #[.pointer (some ⟨q, 0, none⟩)] .returning w fun e u' w' => e = .returned (.tuple #[]) ∧ u' = .returning ∧ w' = w.drew := by
  refine callsD_of_wpS Try.func38 rfl fun c₀ cs hu => ?_
  have hc0 : { c₀ with mode := .returning } = c₀ := by cases c₀; simp_all
  refine wpS_region3 (by kernel_rfl) rfl (by kernel_rfl) (by kernel_rfl) (by kernel_rfl) (by kernel_rfl) ?_ ?_
  all_goals
    simp [wpOpsS, go_sem, recoverD, hu, Try.ntmps38, hq]
    refine (caught_nil p w.drew).mono ?_
    rintro e w1 ⟨rfl, rfl⟩
    exact ⟨rfl, .returning, by rw [hc0], .tuple #[], by simp [results, Try.results38], rfl, rfl, rfl⟩
theorem text1_catch (p q : Nat) (A : Option Addr) (n c : Nat) (e f : Int) (w : World) (hq : w.cell? ⟨q, 0, none⟩ = some (.pointer (some ⟨p, 0, none⟩))) (hc : RdC w p A n c e) :
    CallsD Try.prog 38 #[.pointer (some ⟨q, 0, none⟩)] (.panicking (wrongP f)) w fun en u' w' =>
      en = .returned (.tuple #[]) ∧ u' = .panicking [{ v := .iface 59 (.int .i64 f), recovered := true }] ∧ RdC w' p A n c (firstErr e f) ∧ RBut (some p) w w' := by
  refine callsD_of_wpS Try.func38 rfl fun c₀ cs hu => ?_
  unfold wrongP at hu
  refine wpS_region3 (by kernel_rfl) rfl (by kernel_rfl) (by kernel_rfl) (by kernel_rfl) (by kernel_rfl) ?_ ?_
  all_goals
    simp [wpOpsS, go_sem, recoverD, hu, Try.ntmps38, hq]
    refine (caught_own p A n c e f w.drew hc).mono ?_
    rintro en w1 ⟨rfl, h1, h2⟩
    exact ⟨rfl, _, rfl, .tuple #[], by simp [results, Try.results38], rfl, rfl, h1, ⟨h2.os, h2.tape, h2.output, h2.size, h2.block⟩⟩
theorem hash1_idle (p q : Nat) (w : World) (hq : w.cell? ⟨q, 0, none⟩ = some (.pointer (some ⟨p, 0, none⟩))) :
    CallsD Try.prog 40 #[.pointer (some ⟨q, 0, none⟩)] .returning w fun e u' w' => e = .returned (.tuple #[]) ∧ u' = .returning ∧ w' = w.drew := by
  refine callsD_of_wpS Try.func40 rfl fun c₀ cs hu => ?_
  have hc0 : { c₀ with mode := .returning } = c₀ := by cases c₀; simp_all
  refine wpS_region3 (by kernel_rfl) rfl (by kernel_rfl) (by kernel_rfl) (by kernel_rfl) (by kernel_rfl) ?_ ?_
  all_goals
    simp [wpOpsS, go_sem, recoverD, hu, Try.ntmps40, hq]
    refine (caught_nil p w.drew).mono ?_
    rintro e w1 ⟨rfl, rfl⟩
    exact ⟨rfl, .returning, by rw [hc0], .tuple #[], by simp [results, Try.results40], rfl, rfl, rfl⟩
theorem hash1_catch (p q : Nat) (A : Option Addr) (n c : Nat) (e f : Int) (w : World) (hq : w.cell? ⟨q, 0, none⟩ = some (.pointer (some ⟨p, 0, none⟩))) (hc : RdC w p A n c e) :
    CallsD Try.prog 40 #[.pointer (some ⟨q, 0, none⟩)] (.panicking (wrongP f)) w fun en u' w' =>
      en = .returned (.tuple #[]) ∧ u' = .panicking [{ v := .iface 59 (.int .i64 f), recovered := true }] ∧ RdC w' p A n c (firstErr e f) ∧ RBut (some p) w w' := by
  refine callsD_of_wpS Try.func40 rfl fun c₀ cs hu => ?_
  unfold wrongP at hu
  refine wpS_region3 (by kernel_rfl) rfl (by kernel_rfl) (by kernel_rfl) (by kernel_rfl) (by kernel_rfl) ?_ ?_
  all_goals
    simp [wpOpsS, go_sem, recoverD, hu, Try.ntmps40, hq]
    refine (caught_own p A n c e f w.drew hc).mono ?_
    rintro en w1 ⟨rfl, h1, h2⟩
    exact ⟨rfl, _, rfl, .tuple #[], by simp [results, Try.results40], rfl, rfl, h1, ⟨h2.os, h2.tape, h2.output, h2.size, h2.block⟩⟩

theorem Rd.any {w : World} {p : Nat} {rest rest' : List UInt8} {e : Int} (h : Rd w p rest e) (he : e ≠ 0) : Rd w p rest' e := by
  obtain ⟨A, n, c, h1, _⟩ := h
  exact ⟨A, n, c, h1, fun h0 => absurd h0 he⟩
theorem RdC.err {w : World} {p : Nat} {A : Option Addr} {n c : Nat} {rest : List UInt8} {e : Int} (h : RdC w p A n c e) (he : e ≠ 0) : Rd w p rest e := ⟨A, n, c, h, fun h0 => absurd h0 he⟩
/-- a number, by its face -/
def stInt (s : List UInt8 × Int) : Int × (List UInt8 × Int) :=
  if s.2 = 0 then
    match dec 0 0 s.1 with
    | .ok u l => (zag u, (l, 0))
    | .cut => (0, ([], 8))
    | .bad => (0, ([], 10))
  else (0, s)
theorem stInt_cut {rest : List UInt8} (h : dec 0 0 rest = .cut) : stInt (rest, 0) = (0, ([], 8)) := by simp [stInt, h]
theorem stInt_bad {rest : List UInt8} (h : dec 0 0 rest = .bad) : stInt (rest, 0) = (0, ([], 10)) := by simp [stInt, h]
/-- A call of a face of the reader: what it answers, the reader behind it. -/
def RFace (w : World) (p : Nat) (v : Value) (s : List UInt8 × Int) (en : Ending) (w' : World) : Prop := en = .returned v ∧ Rd w' p s.1 s.2 ∧ RBut (some p) w w'

theorem rInt_any (p : Nat) (s : List UInt8 × Int) (w : World) (hr : Rd w p s.1 s.2) :
    Calls Try.prog 21 #[.pointer (some ⟨p, 0, none⟩)] w (RFace w p (.int .i64 (stInt s).1) (stInt s).2) := by
  obtain ⟨rest, e⟩ := s
  have hp := hr.lt
  have hr1 := hr.keep ((Below.refl w.heap.size w).alloc (Nat.le_refl _) (.cells #[.pointer (some ⟨p, 0, none⟩)] 33))
  have bx : (w.alloc (.cells #[.pointer (some ⟨p, 0, none⟩)] 33)).cell? ⟨w.heap.size, 0, none⟩ = some (.pointer (some ⟨p, 0, none⟩)) := by
    rw [cell_of_row _ w.heap.size 0 _ _ _ (heap_alloc_new w _)]; rfl
  have b0 : RBut (some p) w (w.alloc (.cells #[.pointer (some ⟨p, 0, none⟩)] 33)) := RBut.of_below ((Below.refl _ _).alloc (Nat.le_refl _) _)
  have hlt : w.heap.size < (w.alloc (.cells #[.pointer (some ⟨p, 0, none⟩)] 33)).heap.size := by simp
  obtain ⟨A, n, c, hc, hx⟩ := hr
  have c1 := hc.c1
  have hmf : ∀ (fn : Fn) (first cap : Array Value) (w : World), (Instr.makeFunc fn first cap).run Try.prog w = .ok (.func fn first cap) w := fun _ _ _ _ => rfl
  by_cases h0 : e = 0
  · subst h0
    clear hx
    have NP := Lib.hid (number_any p rest _ hr1)
    have hN : ∀ en w', NumPost (w.alloc (.cells #[.pointer (some ⟨p, 0, none⟩)] 33)) p rest en w' → (match dec 0 0 rest with
      | .ok u l => en = .returned (.int .i64 (zag u)) ∧ Rd w' p l 0 ∧ RBut (some p) (w.alloc (.cells #[.pointer (some ⟨p, 0, none⟩)] 33)) w'
      | .cut => en = .panicked (wrongP 8) ∧ (∃ l', Rd w' p l' 0) ∧ RBut (some p) (w.alloc (.cells #[.pointer (some ⟨p, 0, none⟩)] 33)) w'
      | .bad => en = .panicked (wrongP 10) ∧ (∃ l', Rd w' p l' 0) ∧ RBut (some p) (w.alloc (.cells #[.pointer (some ⟨p, 0, none⟩)] 33)) w') := fun en w' h => h
    have HN := Lib.hid hN
    clear hN
    rcases hd : dec 0 0 rest with ⟨u, l⟩ | _ | _
    · rw [show stInt (rest, 0) = (zag u, (l, 0)) by simp [stInt, hd]]
      rw [hd] at HN
      clear hd
      go_enter_defers Try.func21, Try.ntmps21
      go_wp2_with fail
      refine NP.out.mono ?_
      clear hr1
      generalize w.alloc (.cells #[.pointer (some ⟨p, 0, none⟩)] 33) = W at *
      intro en w2 h2
      obtain ⟨rfl, hr2, hb2⟩ := HN.out en w2 h2
      clear h2 HN NP
      have q2 := (World.cell?_of_block (w' := w2) (a := ⟨w.heap.size, 0, none⟩) (hb2.block w.heap.size hlt (fun h => by injection h; omega))).trans bx
      dsimp only
      go_wp2
      refine leaves_cons (f := 35) (args := #[.pointer (some ⟨w.heap.size, 0, none⟩)]) (by simp) (by simp [go_sem]) ?_
      refine (int1_idle p w.heap.size _ q2).mono ?_
      rintro e u' w'' ⟨rfl, rfl, rfl⟩
      exact ⟨_, results_tmp rfl _ _ _, rfl, hr2.keep (Below.refl _ _).drew, RBut.trans_ _ _ _ _ b0 (RBut.trans_ _ _ _ _ hb2 (RBut.of_below (Below.refl _ _).drew))⟩
    all_goals
      first
        | (rw [stInt_cut hd])
        | (rw [stInt_bad hd])
      rw [hd] at HN
      clear hd
      go_enter_defers Try.func21, Try.ntmps21
      go_wp2_with fail
      refine NP.out.mono ?_
      clear hr1
      generalize w.alloc (.cells #[.pointer (some ⟨p, 0, none⟩)] 33) = W at *
      intro en w2 h2
      obtain ⟨rfl, ⟨l', A2, n2, c2, hc2, _⟩, hb2⟩ := HN.out en w2 h2
      clear h2 HN NP
      have q2 := (World.cell?_of_block (w' := w2) (a := ⟨w.heap.size, 0, none⟩) (hb2.block w.heap.size hlt (fun h => by injection h; omega))).trans bx
      dsimp only
      refine leaves_cons (f := 35) (args := #[.pointer (some ⟨w.heap.size, 0, none⟩)]) (by simp) (by simp [go_sem]) ?_
      refine (int1_catch p w.heap.size A2 n2 c2 0 _ _ q2 hc2).mono ?_
      rintro en u' w'' ⟨rfl, rfl, hc3, hb3⟩
      simp only [firstErr, if_true] at hc3
      have fin := RBut.trans_ _ _ _ _ b0 (RBut.trans_ _ _ _ _ hb2 hb3)
      have fin2 := hc3.err (rest := []) (by decide)
      simp [Leaves, settle, results, Try.results21, go_sem]
      exact ⟨rfl, fin2, fin⟩
  · have t1 : (e == 0) = false := by simpa using h0
    rw [show stInt (rest, e) = (0, (rest, e)) by simp [stInt, h0]]
    clear hx h0
    go_enter_defers Try.func21, Try.ntmps21
    go_wp2
    refine leaves_cons (f := 35) (args := #[.pointer (some ⟨w.heap.size, 0, none⟩)]) (by simp) (by simp [go_sem]) ?_
    refine (int1_idle p w.heap.size _ bx).mono ?_
    rintro e u' w'' ⟨rfl, rfl, rfl⟩
    exact ⟨_, results_tmp rfl _ _ _, rfl, hr1.keep (Below.refl _ _).drew, RBut.trans_ _ _ _ _ b0 (RBut.of_below (Below.refl _ _).drew)⟩
end Go.Proofs.Ytoecbgdkbncfbaa
