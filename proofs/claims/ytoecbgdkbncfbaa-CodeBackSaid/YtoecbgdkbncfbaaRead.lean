/- Walks: the reader of package code: New, take, number, Fail, End. -/
import Derived.Test.YtoecbgdkbncfbaaDec
import Derived.Test.YtoecbgdkbncfbaaDraw
import Derived.Test.YtoecbgdkbncfbaaInt

namespace Go.Proofs.Ytoecbgdkbncfbaa
open Go.RowKit

/-- The reader's two fields. -/
def RdC (w : World) (p : Nat) (A : Option Addr) (n c : Nat) (e : Int) : Prop := w.heap[p]? = some (.cells #[.slice A n c, .int .i64 e] 57 (0, 0))
/-- A slice's address, in another block than p. -/
def Away (A : Option Addr) (p : Nat) : Prop := A = none ∨ ∃ b o, A = some ⟨b, o, none⟩ ∧ b < p
/-- The reader: what is left to be read (if nothing is wrong), what is wrong. -/
def Rd (w : World) (p : Nat) (rest : List UInt8) (e : Int) : Prop := ∃ A n c, RdC w p A n c e ∧ (e = 0 → n ≤ c ∧ c ≤ 9223372036854775807 ∧ Sl w 1 A n (B8 rest) ∧ Away A p)

section
variable {w w' : World} {p : Nat} {A : Option Addr} {n c : Nat} {e : Int}
theorem RdC.lt (h : RdC w p A n c e) : p < w.heap.size := (Array.getElem?_eq_some_iff.1 h).1
theorem RdC.c0 (h : RdC w p A n c e) : w.cell? ⟨p, 0, none⟩ = some (.slice A n c) := by rw [cell_of_row w p 0 _ _ _ h]; rfl
theorem RdC.c1 (h : RdC w p A n c e) : w.cell? ⟨p, 1, none⟩ = some (.int .i64 e) := by rw [cell_of_row w p 1 _ _ _ h]; rfl
theorem RdC.fz (h : RdC w p A n c e) (i : Nat) : w.frozen? ⟨p, i, none⟩ = false := by unfold RdC at h; simp [World.frozen?, h]
theorem RdC.set0 (h : RdC w p A n c e) (A' : Option Addr) (n' c' : Nat) : RdC (w.setCell ⟨p, 0, none⟩ (.slice A' n' c')) p A' n' c' e := by
  unfold RdC at h ⊢
  simp [World.setCell, Array.getElem?_modify, h]
theorem RdC.set1 (h : RdC w p A n c e) (e' : Int) : RdC (w.setCell ⟨p, 1, none⟩ (.int .i64 e')) p A n c e' := by
  unfold RdC at h ⊢
  simp [World.setCell, Array.getElem?_modify, h]
theorem RdC.keep (h : RdC w p A n c e) (hb : w'.heap[p]? = w.heap[p]?) : RdC w' p A n c e := hb.trans h
theorem RBut.set (w : World) (p i : Nat) (v : Value) : RBut (some p) w (w.setCell ⟨p, i, none⟩ v) :=
  ⟨rfl, rfl, rfl, by simp [World.setCell], fun k _ hk => Below.heap_setCell _ _ _ _ (fun e => hk (by rw [e]))⟩
theorem Rd.keep {rest : List UInt8} (h : Rd w p rest e) (hb : Below w.heap.size w w') : Rd w' p rest e := by
  obtain ⟨A, n, c, h1, h2⟩ := h
  exact ⟨A, n, c, h1.keep (hb.block p h1.lt), fun he => ⟨(h2 he).1, (h2 he).2.1, (h2 he).2.2.1.to hb, (h2 he).2.2.2⟩⟩
theorem Rd.lt {rest : List UInt8} (h : Rd w p rest e) : p < w.heap.size := by obtain ⟨_, _, _, h, _⟩ := h; exact h.lt
end

/-- the reader's own panic -/
def wrongP (e : Int) : List PanicEntry := [{ v := .iface 59 (.int .i64 e), recovered := false }]

/-- The reader with nothing wrong; what is left lies in A's block. -/
def RdA (w : World) (p : Nat) (A0 : Option Addr) (rest : List UInt8) : Prop :=
  ∃ A n c, RdC w p A n c 0 ∧ n ≤ c ∧ c ≤ 9223372036854775807 ∧ Sl w 1 A n (B8 rest) ∧ Away A p ∧ ∀ b, A.map (·.block) = some b → A0.map (·.block) = some b
theorem RdA.rd {w : World} {p : Nat} {A0 : Option Addr} {rest : List UInt8} (h : RdA w p A0 rest) : Rd w p rest 0 := by
  obtain ⟨A, n, c, h1, h2, h3, h4, h5, _⟩ := h
  exact ⟨A, n, c, h1, fun _ => ⟨h2, h3, h4, h5⟩⟩
theorem RdA.move {w w' : World} {p x : Nat} {A0 : Option Addr} {rest : List UInt8} (h : RdA w p A0 rest) (hk : ∀ k, k < w.heap.size → k ≠ x → w'.heap[k]? = w.heap[k]?) (hs : w.heap.size ≤ w'.heap.size) (hp : p ≠ x) (hA : ∀ b, A0.map (·.block) = some b → b ≠ x) : Rd w' p rest 0 := by
  obtain ⟨A, n, c, h1, h2, h3, h4, h5, h6⟩ := h
  refine ⟨A, n, c, h1.keep (hk p h1.lt hp), fun _ => ⟨h2, h3, ⟨h4.len, fun hn => ?_⟩, h5⟩⟩
  obtain ⟨b, o, rfl, hb, hc⟩ := h4.cells hn
  exact ⟨b, o, rfl, by omega, fun j u hu => (World.cell?_of_block (a := ⟨b, o + j, none⟩) (hk b hb (hA b (h6 b rfl)))).trans (hc j u hu)⟩
/-- take: as many as there are -/
def TakeOk (w : World) (p : Nat) (A : Option Addr) (c k : Nat) (l : List UInt8) (en : Ending) (w' : World) : Prop :=
  en = .returned (.slice A k c) ∧ Sl w' 1 A k (B8 (l.take k)) ∧ Rd w' p (l.drop k) 0 ∧ RBut (some p) w w' ∧ RdA w' p A (l.drop k)
theorem TakeOk.mk' {w w' : World} {p : Nat} {A : Option Addr} {c k : Nat} {l : List UInt8} (h1 : Sl w' 1 A k (B8 (l.take k))) (h2 : RdA w' p A (l.drop k)) (h3 : RBut (some p) w w') : TakeOk w p A c k l (.returned (.slice A k c)) w' := ⟨rfl, h1, h2.rd, h3, h2⟩
theorem take_ok (p : Nat) (A : Option Addr) (n c k : Nat) (l : List UInt8) (w : World) (hc : RdC w p A n c 0) (hnc : n ≤ c) (hs : Sl w 1 A n (B8 l)) (hA : Away A p) (hk : k ≤ n) (hn : c ≤ 9223372036854775807) :
    Calls Try.prog 39 #[.pointer (some ⟨p, 0, none⟩), .int .i64 k] w (TakeOk w p A c k l) := by
  have c0 := hc.c0
  have f0 := hc.fz 0
  have t1 : ¬ (n : Int) < (k : Int) := by omega
  rcases hA with rfl | ⟨b, o, rfl, hb⟩
  · obtain rfl : n = 0 := by
      rcases Nat.eq_zero_or_pos n with h0 | h0
      · exact h0
      · obtain ⟨_, _, h, _⟩ := hs.cells h0
        cases h
    obtain rfl : k = 0 := by omega
    obtain rfl : l = [] := List.eq_nil_of_length_eq_zero hs.len8.symm
    go_enter Try.func39, Try.ntmps39
    go_wp2
    go_ret
    exact TakeOk.mk' Sl.nil_ ⟨none, _, _, hc.set0 none _ _, hnc, hn, Sl.nil_, .inl rfl, fun b h => h⟩ (RBut.set _ _ _ _)
  · have hl8 := hs.len8
    have away : ∀ (o' : Nat), ∀ b', (some (⟨b, o', none⟩ : Addr)).map (·.block) = some b' → some b' ≠ some p := by
      intro o' b' h h2
      simp only [Option.map_some, Option.some.injEq] at h h2
      omega
    have sf := (hs.front hk)
    have sb := (hs.back hk)
    have Away' := Lib.hid away
    have Hl8 := Lib.hid hl8
    clear away hl8
    by_cases hck : c = k
    · subst hck
      obtain rfl : n = c := by omega
      go_enter Try.func39, Try.ntmps39
      go_wp2
      go_ret
      refine TakeOk.mk' (sf.but2 (RBut.set _ _ _ _) (Away'.out o)) ⟨_, _, _, hc.set0 _ _ _, by omega, by omega, ?_, .inr ⟨b, o, rfl, hb⟩, fun b h => h⟩ (RBut.set _ _ _ _)
      rw [List.drop_of_length_le (by rw [← Hl8.out]; exact Nat.le_refl _)]
      exact Sl.nil_
    · go_enter Try.func39, Try.ntmps39
      go_wp2
      go_ret
      exact TakeOk.mk' (sf.but2 (RBut.set _ _ _ _) (Away'.out o)) ⟨_, _, _, hc.set0 _ _ _, by omega, by omega, sb.but2 (RBut.set _ _ _ _) (Away'.out (o + k)), .inr ⟨b, o + k, rfl, hb⟩, fun b h => h⟩ (RBut.set _ _ _ _)
theorem take_cut (p : Nat) (A : Option Addr) (n c : Nat) (k : Int) (w : World) (hc : RdC w p A n c 0) (hk : (n : Int) < k) :
    Calls Try.prog 39 #[.pointer (some ⟨p, 0, none⟩), .int .i64 k] w fun e w' => e = .panicked (wrongP 8) ∧ w = w' := by
  have c0 := hc.c0
  go_enter Try.func39, Try.ntmps39
  go_wp2
  exact ⟨rfl, rfl, rfl⟩
/-- the first error stays -/
def firstErr (e f : Int) : Int := if e = 0 then f else e
/-- what End says where nothing was wrong -/
def endOf (n : Nat) : Int := if n = 0 then 0 else 9
theorem fail_any (p : Nat) (A : Option Addr) (n c : Nat) (e f : Int) (w : World) (hc : RdC w p A n c e) :
    Calls Try.prog 29 #[.pointer (some ⟨p, 0, none⟩), .int .i64 f] w fun en w' => en = .returned (.tuple #[]) ∧ RdC w' p A n c (firstErr e f) ∧ RBut (some p) w w' := by
  have c1 := hc.c1
  have f1 := hc.fz 1
  by_cases h0 : e = 0
  · subst h0
    go_enter Try.func29, Try.ntmps29
    go_wp2
    go_end0
    exact ⟨rfl, by simpa [firstErr] using hc.set1 f, RBut.set _ _ _ _⟩
  · have t1 : (e == 0) = false := by simpa using h0
    have H0 := Lib.hid h0
    clear h0
    go_enter Try.func29, Try.ntmps29
    go_wp2
    go_end0
    exact ⟨rfl, by unfold firstErr; rw [if_neg H0.out]; exact hc, RBut.refl_ _ _⟩
theorem end_err (p : Nat) (A : Option Addr) (n c : Nat) (e : Int) (w : World) (hc : RdC w p A n c e) (h0 : e ≠ 0) :
    Calls Try.prog 22 #[.pointer (some ⟨p, 0, none⟩)] w fun en w' => en = .returned (.int .i64 e) ∧ w = w' := by
  have c1 := hc.c1
  have t1 : (e == 0) = false := by simpa using h0
  clear h0
  go_enter Try.func22, Try.ntmps22
  go_wp2
  go_ret
  exact ⟨rfl, rfl⟩
theorem end_ok (p : Nat) (A : Option Addr) (n c : Nat) (w : World) (hc : RdC w p A n c 0) :
    Calls Try.prog 22 #[.pointer (some ⟨p, 0, none⟩)] w fun en w' => en = .returned (  .int .i64 (endOf n)) ∧ w = w' := by
  have c1 := hc.c1
  have c0 := hc.c0
  by_cases h0 : n = 0
  · subst h0
    go_enter Try.func22, Try.ntmps22
    go_wp2
    go_ret
    exact ⟨rfl, rfl⟩
  · have t1 : (0 : Int) < n := by omega
    have H0 := Lib.hid h0
    clear h0
    go_enter Try.func22, Try.ntmps22
    go_wp2
    go_ret
    exact ⟨ret_int (by unfold endOf; rw [if_neg H0.out]), rfl⟩
/-- a new reader -/
def RNew (w : World) (l : List UInt8) (en : Ending) (w' : World) : Prop := ∃ p, en = .returned (.pointer (some ⟨p, 0, none⟩)) ∧ w.heap.size ≤ p ∧ Rd w' p l 0 ∧ Below w.heap.size w w'
theorem new_any (A : Option Addr) (n c : Nat) (l : List UInt8) (w : World) (h : Sl w 1 A n (B8 l)) (hn : n ≤ 1099511627776) :
    Calls Try.prog 20 #[.slice A n c] w (RNew w l) := by
  go_enter Try.func20, Try.ntmps20
  go_wp2_with fail
  refine (clone_B A n c _ w h (B8_one _) (by omega)).mono ?_
  rintro e w1 ⟨A1, n1, c1, rfl, ho1, hb1⟩
  go_wp2
  go_ret
  refine ⟨w1.heap.size, rfl, hb1.size, ⟨A1, n1, c1, heap_alloc_new w1 _, fun _ => ⟨ho1.le.1, ?_, ho1.sl.alloc _, ?_⟩⟩, hb1.alloc hb1.size _⟩
  · have := ho1.le.2
    simp only [maxLen] at this
    omega
  · rcases A1 with _ | ad
    · exact .inl rfl
    · obtain ⟨g, cap, hv, _, hlt⟩ | h0 : (∃ g cap, Value.slice (some ad) n1 c1 = .slice (some ⟨g, 0, none⟩) n1 cap ∧ w.heap.size ≤ g ∧ g < w1.heap.size) ∨ False := by
        rcases ho1.2 with ⟨h, _⟩ | ⟨g, cap, cur, hv, hB, hg, _⟩
        · cases h
        · exact .inl ⟨g, cap, hv, hB, (Array.getElem?_eq_some_iff.1 hg).1⟩
      · injection hv with hv
        injection hv with hv
        subst hv
        exact .inr ⟨g, 0, rfl, by omega⟩
      · exact h0.elim

/-- a number is read -/
def NumPost (w : World) (p : Nat) (rest : List UInt8) (en : Ending) (w' : World) : Prop :=
  match dec 0 0 rest with
  | .ok u l => en = .returned (.int .i64 (zag u)) ∧ Rd w' p l 0 ∧ RBut (some p) w w'
  | .cut => en = .panicked (wrongP 8) ∧ (∃ l', Rd w' p l' 0) ∧ RBut (some p) w w'
  | .bad => en = .panicked (wrongP 10) ∧ (∃ l', Rd w' p l' 0) ∧ RBut (some p) w w'
theorem NumPost.cut_ {w w' : World} {p : Nat} {rest l' : List UInt8} (h : dec 0 0 rest = .cut) (h1 : Rd w' p l' 0) (h2 : RBut (some p) w w') : NumPost w p rest (.panicked (wrongP 8)) w' := by
  unfold NumPost; rw [h]; exact ⟨rfl, ⟨l', h1⟩, h2⟩
theorem NumPost.bad_ {w w' : World} {p : Nat} {rest l' : List UInt8} (h : dec 0 0 rest = .bad) (h1 : Rd w' p l' 0) (h2 : RBut (some p) w w') : NumPost w p rest (.panicked (wrongP 10)) w' := by
  unfold NumPost; rw [h]; exact ⟨rfl, ⟨l', h1⟩, h2⟩
theorem NumPost.ok_ {w w' : World} {p : Nat} {rest l' : List UInt8} {u : Nat} (h : dec 0 0 rest = .ok u l') (h1 : Rd w' p l' 0) (h2 : RBut (some p) w w') : NumPost w p rest (.returned (.int .i64 (zag u))) w' := by
  unfold NumPost; rw [h]; exact ⟨rfl, h1, h2⟩
theorem dec_nil (k acc : Nat) : dec k acc [] = .cut := by unfold dec; rfl
theorem dec_bad {k acc : Nat} {c : UInt8} {l : List UInt8} (h : (k = 9 ∧ 1 < c.toNat) ∨ (0 < k ∧ c.toNat = 0)) : dec k acc (c :: l) = .bad := by unfold dec; rw [if_pos h]
theorem dec_last {k acc : Nat} {c : UInt8} {l : List UInt8} (h : ¬ ((k = 9 ∧ 1 < c.toNat) ∨ (0 < k ∧ c.toNat = 0))) (h1 : c.toNat < 128) : dec k acc (c :: l) = .ok (acc + c.toNat % 128 * 128 ^ k) l := by
  unfold dec; rw [if_neg h, if_pos h1]
theorem dec_more {k acc : Nat} {c : UInt8} {l : List UInt8} (h : ¬ ((k = 9 ∧ 1 < c.toNat) ∨ (0 < k ∧ c.toNat = 0))) (h1 : ¬ c.toNat < 128) : dec k acc (c :: l) = dec (k + 1) (acc + c.toNat % 128 * 128 ^ k) l := by
  conv => lhs; unfold dec
  rw [if_neg h, if_neg h1]

theorem acc_val (acc y j : Nat) (hj : j ≤ 9) (h9 : j = 9 → y ≤ 1) (ha : acc < 128 ^ j) : bits .or .u64 (acc : Int) (IntKind.u64.wrap ((y : Int) % 128 * 2 ^ (7 * j))) = ((acc + y % 128 * 128 ^ j : Nat) : Int) := by
  have hp : 128 ^ j = 2 ^ (7 * j) := by rw [Nat.pow_mul]
  have hm : y % 128 < 128 := Nat.mod_lt _ (by decide)
  have hb : y % 128 * 128 ^ j < 18446744073709551616 ∧ acc < 18446744073709551616 := by
    by_cases e : j = 9
    · subst e
      have h1 : y % 128 ≤ 1 := by have := h9 rfl; omega
      have h2 : y % 128 * 128 ^ 9 ≤ 1 * 128 ^ 9 := Nat.mul_le_mul_right _ h1
      have h3 : (128 : Nat) ^ 9 = 9223372036854775808 := by decide
      omega
    · have h1 : 128 ^ j ≤ 128 ^ 8 := Nat.pow_le_pow_right (by decide) (by omega)
      have h2 : y % 128 * 128 ^ j ≤ 127 * 128 ^ j := Nat.mul_le_mul_right _ (by omega)
      have h3 : (128 : Nat) ^ 8 = 72057594037927936 := by decide
      omega
  have e1 : (y : Int) % 128 * 2 ^ (7 * j) = ((y % 128 * 128 ^ j : Nat) : Int) := by rw [hp]; simp
  have e2 : IntKind.u64.wrap ((y % 128 * 128 ^ j : Nat) : Int) = ((y % 128 * 128 ^ j : Nat) : Int) := by
    rw [show ∀ m, IntKind.u64.wrap m = m % 18446744073709551616 from fun m => by simp [IntKind.wrap, IntKind.bits, IntKind.signed]]
    omega
  rw [e1, e2, u64_or_nat _ _ hb.2 hb.1, Nat.or_comm, nat_join (7 * j) _ _ (by rw [hp]; exact Nat.mul_mod_left _ _) (by rw [← hp]; exact ha), Nat.add_comm]
theorem acc_lt (acc y j : Nat) (hj : j ≤ 9) (h9 : j = 9 → y ≤ 1) (ha : acc < 128 ^ j) : acc + y % 128 * 128 ^ j < 18446744073709551616 := by
  have hm : y % 128 < 128 := Nat.mod_lt _ (by decide)
  by_cases e : j = 9
  · subst e
    have h1 : y % 128 ≤ 1 := by have := h9 rfl; omega
    have h2 : y % 128 * 128 ^ 9 ≤ 1 * 128 ^ 9 := Nat.mul_le_mul_right _ h1
    have h3 : (128 : Nat) ^ 9 = 9223372036854775808 := by decide
    omega
  · have h1 : 128 ^ j ≤ 128 ^ 8 := Nat.pow_le_pow_right (by decide) (by omega)
    have h2 : y % 128 * 128 ^ j ≤ 127 * 128 ^ j := Nat.mul_le_mul_right _ (by omega)
    have h3 : (128 : Nat) ^ 8 = 72057594037927936 := by decide
    omega
set_option maxHeartbeats 2000000 in
theorem number_any (p : Nat) (rest : List UInt8) (w : World) (hr : Rd w p rest 0) :
    Calls Try.prog 37 #[.pointer (some ⟨p, 0, none⟩)] w (NumPost w p rest) := by
  go_enter Try.func37, Try.ntmps37
  go_wp2_with fail
  go_loopw [3, 4] (fun u k wr => ∃ (acc j : Nat) (l : List UInt8), u = .int .u64 acc ∧ k = .int .i64 j ∧ j ≤ 9 ∧ acc < 128 ^ j ∧ dec 0 0 rest = dec j acc l ∧ Rd wr p l 0 ∧ RBut (some p) w wr) (fun _ k _ => 9 - (intOf k).toNat)
  case atStart => exact ⟨0, 0, rest, rfl, rfl, by omega, by decide, rfl, hr, RBut.refl_ _ _⟩
  case round =>
    obtain ⟨acc, j, l, rfl, rfl, hj, hacc, hd, ⟨A, n, c, hc, hx⟩, hbut⟩ := hrel
    obtain ⟨hnc, hc63, hs, hA⟩ := hx rfl
    have HD := Lib.hid hd
    have HAcc := Lib.hid hacc
    have hn8 := hs.len8
    clear hd hacc hr hx
    rcases l with _ | ⟨x, l⟩
    · obtain rfl : n = 0 := hn8
      have hpost := NumPost.cut_ (HD.out.trans (dec_nil j acc)) ⟨A, 0, c, hc, fun _ => ⟨hnc, hc63, hs, hA⟩⟩ hbut
      have HP := Lib.hid hpost
      clear hpost HD HAcc
      go_wp2_with fail
      refine (take_cut p A 0 c 1 wr hc (by omega)).mono ?_
      rintro e w' ⟨rfl, rfl⟩
      exact ⟨rfl, HP.out⟩
    · have hn1 : 1 ≤ n := by rw [hn8]; simp
      have TK := Lib.hid (take_ok p A n c 1 (x :: l) wr hc hnc hs hA hn1 hc63)
      clear hn8 hc hs hA hc63 hnc hn1
      go_wp2_with fail
      refine TK.out.mono ?_
      rintro e w1 ⟨rfl, hs1, hr1, hbut1, _⟩
      obtain ⟨b, o, rfl, _, hcell⟩ := hs1.at8 (by decide)
      have f1 := hcell 0 x rfl
      have hbut2 := RBut.trans_ _ _ _ _ hbut hbut1
      simp only [List.drop_succ_cons, List.drop_zero] at hr1
      have hx256 := x.toNat_lt
      have bad := fun h => NumPost.bad_ (HD.out.trans (dec_bad (c := x) (l := l) (acc := acc) (k := j) h)) hr1 hbut2
      have last := fun h h1 => NumPost.ok_ (HD.out.trans (dec_last (c := x) (l := l) (acc := acc) (k := j) h h1)) hr1 hbut2
      have more := fun h h1 => HD.out.trans (dec_more (c := x) (l := l) (acc := acc) (k := j) h h1)
      have Bad := Lib.hid bad
      have Last := Lib.hid last
      have More := Lib.hid more
      clear bad last more HD TK hbut hbut1 hs1 hcell
      generalize x.toNat = y at *
      simp only [Nat.add_zero] at f1
      by_cases hb : (j = 9 ∧ 1 < y) ∨ (0 < j ∧ y = 0)
      · have HP := Lib.hid (Bad.out hb)
        clear Bad Last More HAcc hr1 hbut2
        dsimp only
        by_cases h9 : j = 9
        · subst h9
          by_cases h1 : (1 : Int) < (y : Int)
          · go_wp2
            exact ⟨rfl, HP.out⟩
          · obtain rfl : y = 0 := by omega
            go_wp2
            exact ⟨rfl, HP.out⟩
        · have t9 : ((j : Int) == 9) = false := by simp; omega
          obtain rfl : y = 0 := by omega
          have t0 : (0 : Int) < (j : Int) := by omega
          clear h9
          go_wp2
          exact ⟨rfl, HP.out⟩
      · have HB := Lib.hid hb
        clear Bad
        have c9 : (((j : Int) == 9) = true ∧ ¬ (1 : Int) < (y : Int) ∧ 0 < j ∧ ((y : Int) == 0) = false ∧ ¬ y = 0) ∨ (((j : Int) == 9) = false ∧ ¬ 0 < j) ∨ (((j : Int) == 9) = false ∧ 0 < j ∧ ((y : Int) == 0) = false ∧ ¬ y = 0) := by
          simp
          omega
        obtain ⟨v, hv⟩ : ∃ v : Nat, v = acc + y % 128 * 128 ^ j := ⟨_, rfl⟩
        have hvlt : v < 18446744073709551616 := by rw [hv]; exact acc_lt acc y j hj (by omega) HAcc.out
        have E := acc_val acc y j hj (by omega) HAcc.out
        rw [← hv] at E
        have V := Lib.hid hv
        have VL := Lib.hid hvlt
        clear hb hv hvlt
        by_cases hy : y < 128
        · have ty : (y : Int) < 128 := by omega
          have HL := Last.out HB.out hy
          rw [← V.out] at HL
          have hl := Lib.hid HL
          clear HL Last More HAcc HB hr1 hbut2
          by_cases h2 : v % 2 = 1
          · have t2 : (((v : Int) % 2) == 1) = true := by simp; omega
            have z : Hid (zag v = -((v : Int) / 2) - 1) := (by show _ = _; unfold zag; rw [if_pos h2]; omega)
            clear h2
            have vb : (v : Int) / 2 ≤ 9223372036854775807 := by have := VL.out; omega
            rcases c9 with ⟨q1, q2, q3, q4, q5⟩ | ⟨q1, q2⟩ | ⟨q1, q2, q3, q4⟩
            all_goals
              dsimp only
              go_wp2
              go_ret
              rw [← z.out]
              exact hl.out
          · have t2 : (((v : Int) % 2) == 1) = false := by simp; omega
            have z : Hid (zag v = (v : Int) / 2) := (by show _ = _; unfold zag; rw [if_neg h2]; omega)
            have vb : (v : Int) / 2 ≤ 9223372036854775807 := by have := VL.out; omega
            clear h2
            rcases c9 with ⟨q1, q2, q3, q4, q5⟩ | ⟨q1, q2⟩ | ⟨q1, q2, q3, q4⟩
            all_goals
              dsimp only
              go_wp2
              go_ret
              rw [← z.out]
              exact hl.out
        · have ty : ¬ (y : Int) < 128 := by omega
          have HM := More.out HB.out hy
          rw [← V.out] at HM
          have hm := Lib.hid HM
          have hj9 : j < 9 := by have := HB.out; omega
          have hvl : v < 128 ^ (j + 1) := by
            have := HAcc.out
            have h1 : y % 128 * 128 ^ j ≤ 127 * 128 ^ j := Nat.mul_le_mul_right _ (by omega)
            rw [V.out, Nat.pow_succ]
            omega
          have Hvl := Lib.hid hvl
          clear HM Last More HAcc HB hvl
          rcases c9 with ⟨q1, q2, q3, q4, q5⟩ | ⟨q1, q2⟩ | ⟨q1, q2, q3, q4⟩
          · omega
          all_goals
            dsimp only
            go_wp2
            go_roundw
            case rel => exact ⟨v, j + 1, l, rfl, by go_num, by have := VL.out; omega, Hvl.out, hm.out, hr1, hbut2⟩
            case measure => simp [intOf]; omega
end Go.Proofs.Ytoecbgdkbncfbaa
