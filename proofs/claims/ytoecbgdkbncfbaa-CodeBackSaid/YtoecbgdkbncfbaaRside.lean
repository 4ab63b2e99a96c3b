/- The two readers side by side: what one does leaves the other alone. -/
import Derived.Test.YtoecbgdkbncfbaaRr4
namespace Go.Proofs.Ytoecbgdkbncfbaa
open Go.RowKit
theorem Rd.side {w w' : World} {p q : Nat} {rest : List UInt8} {e : Int} (h : Rd w p rest e) (hr : RBut (some q) w w') (hpq : p < q) : Rd w' p rest e := by
  obtain ⟨A, n, c, h1, h2⟩ := h
  refine ⟨A, n, c, h1.keep (hr.block p h1.lt (fun h => by injection h; omega)), fun he => ?_⟩
  obtain ⟨g1, g2, g3, g4⟩ := h2 he
  refine ⟨g1, g2, g3.but2 hr (fun b hb h => ?_), g4⟩
  injection h with h
  rcases g4 with rfl | ⟨b', o, rfl, hlt⟩
  · cases hb
  · simp at hb; omega
theorem Rr.side {w w' : World} {H p q : Nat} {rest : List UInt8} {e : Int} (h : Rr H w q rest e) (hr : RBut (some p) w w') (hH : H ≤ p) (hpq : p ≠ q) : Rr H w' q rest e := by
  obtain ⟨A, n, c, P, bs, hc, hnc, hcm, hs, hAH, hP, hx⟩ := h
  refine ⟨A, n, c, P, bs, hc.keep (hr.block q hc.lt (fun h => by injection h; omega)), hnc, hcm, hs.but2 hr (fun b hb h => ?_), hAH, hP, hx⟩
  injection h with h
  rcases hAH.1 with rfl | ⟨b', o, rfl, hlt⟩
  · cases hb
  · simp at hb; omega
theorem Rr.to {w w' : World} {H q : Nat} {rest : List UInt8} {e : Int} (h : Rr H w q rest e) (hb : Below w.heap.size w w') : Rr H w' q rest e := by
  obtain ⟨A, n, c, P, bs, hc, hnc, hcm, hs, hAH, hP, hx⟩ := h
  exact ⟨A, n, c, P, bs, hc.keep (hb.block q hc.lt), hnc, hcm, hs.to hb, hAH, hP, hx⟩
theorem stHash_len (s : List UInt8 × Int) : (stHash s).1.length = 32 := by
  unfold stHash
  split
  · split
    · rfl
    · rename_i h; simp; omega
  · rfl
theorem Rr.lt {w : World} {H q : Nat} {rest : List UInt8} {e : Int} (h : Rr H w q rest e) : q < w.heap.size := by
  obtain ⟨_, _, _, _, _, hc, _⟩ := h
  exact hc.lt
/-- All blocks that were there are as they were, but for two. -/
structure RTwo (p q : Nat) (w w' : World) : Prop where
  os : w'.os = w.os
  tape : w'.tape = w.tape
  output : w'.output = w.output
  size : w.heap.size ≤ w'.heap.size
  block : ∀ k, k < w.heap.size → k ≠ p → k ≠ q → w'.heap[k]? = w.heap[k]?
theorem RTwo.refl_ (p q : Nat) (w : World) : RTwo p q w w := ⟨rfl, rfl, rfl, Nat.le_refl _, fun _ _ _ _ => rfl⟩
theorem RTwo.trans_ (p q : Nat) (a b c : World) (h : RTwo p q a b) (k : RTwo p q b c) : RTwo p q a c :=
  ⟨k.os.trans h.os, k.tape.trans h.tape, k.output.trans h.output, Nat.le_trans h.size k.size, fun i hi h1 h2 => (k.block i (Nat.lt_of_lt_of_le hi h.size) h1 h2).trans (h.block i hi h1 h2)⟩
theorem RTwo.one {p q : Nat} {w w' : World} (h : RBut (some p) w w') : RTwo p q w w' := ⟨h.os, h.tape, h.output, h.size, fun k hk h1 _ => h.block k hk (fun e => h1 (by injection e))⟩
theorem RTwo.two {p q : Nat} {w w' : World} (h : RBut (some q) w w') : RTwo p q w w' := ⟨h.os, h.tape, h.output, h.size, fun k hk _ h1 => h.block k hk (fun e => h1 (by injection e))⟩
theorem sl_two {w w' : World} {p q size n : Nat} {A : Option Addr} {xs : List Value} (h : Sl w size A n xs) (hr : RTwo p q w w') (hp : ∀ b, A.map (·.block) = some b → b ≠ p ∧ b ≠ q) : Sl w' size A n xs := by
  refine ⟨h.len, fun hn => ?_⟩
  obtain ⟨b, o, e, hb, hc⟩ := h.cells hn
  subst e
  obtain ⟨h1, h2⟩ := hp b rfl
  exact ⟨b, o, rfl, Nat.lt_of_lt_of_le hb hr.size, fun j u hu => (World.cell?_of_block (a := ⟨b, o + j, none⟩) (hr.block b hb h1 h2)).trans (hc j u hu)⟩
end Go.Proofs.Ytoecbgdkbncfbaa
