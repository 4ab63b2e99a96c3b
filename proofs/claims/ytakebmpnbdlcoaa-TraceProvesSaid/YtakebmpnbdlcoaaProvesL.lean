/- Plain words for capstanlaw12.TraceProves. -/
import Derived.Test.YtakebmpnbdlcoaaWCommits
import Derived.Test.YtakebmpnbdlcoaaFork
set_option linter.unusedSimpArgs false
set_option linter.unusedVariables false
namespace Go.Proofs.Ytakebmpnbdlcoaa
open Go.RowKit
set_option maxRecDepth 100000
theorem Sl.bel2' {w w' : World} {B size n : Nat} {A : Option Addr} {xs : List Value} (h : Sl w size A n xs) (hb : Below B w w') (hlt : ∀ b, A.map (·.block) = some b → n ≠ 0 → b < B) : Sl w' size A n xs := by
  refine ⟨h.len, fun hn => ?_⟩
  obtain ⟨b, o, rfl, h1, hc⟩ := h.cells hn
  exact (h.bel2 hb (hlt b rfl (by omega))).cells hn
def nthV : List Value → Nat → Value
  | [], _ => undef
  | x :: _, 0 => x
  | _ :: l, n + 1 => nthV l n
theorem mid_of {l : List Value} {F : (Nat → Value) → Array Value} {X : Prop} (h : F (nthV l) = l.toArray) (hx : X) : ∃ u : Nat → Value, (⟨l.toArray, []⟩ : Act) = ⟨F u, []⟩ ∧ X := ⟨_, by rw [h], hx⟩
theorem wrap_in (x : Int) : -9223372036854775808 ≤ IntKind.i64.wrap x ∧ IntKind.i64.wrap x < 9223372036854775808 := by
  simp [IntKind.wrap, IntKind.signed, IntKind.bits]
  split <;> omega
theorem put_set (cs new : List Value) (o b : Nat) (v : Value) (hs : (cs.drop o).take new.length = new) (hb : b < new.length) (hl : o + new.length ≤ cs.length) : put_ cs o (new.set b v) = cs.set (o + b) v := by
  have e1 : cs = cs.take o ++ (new ++ cs.drop (o + new.length)) := by
    have e2 : cs.drop (o + new.length) = (cs.drop o).drop new.length := by rw [List.drop_drop]
    conv => lhs; rw [← List.take_append_drop o cs]
    rw [e2]
    congr 1
    conv => rhs; rw [← hs]
    rw [List.length_take, Nat.min_eq_left (by rw [List.length_drop]; omega), List.take_append_drop]
  have e3 : (cs.take o).length = o := by rw [List.length_take]; omega
  unfold put_
  rw [List.length_set]
  conv => rhs; rw [e1]
  rw [List.set_append_right _ _ (by omega), e3, Nat.add_sub_cancel_left, List.set_append_left _ _ hb, List.append_assoc]
theorem put_byte (p : List (List UInt8)) (rest : List Value) (k b : Nat) (z : List UInt8) (y : UInt8) (hp : ∀ x ∈ p, x.length = 32) (hz : p[k]? = some z) (hb : b < z.length) : put_ (H8 p ++ rest) (k * 32 + b) [.int .u8 (y.toNat : Int)] = H8 (p.set k (z.set b y)) ++ rest := by
  have hz32 := hp z (List.mem_of_getElem? hz)
  have hk := (List.getElem?_eq_some_iff.1 hz).1
  have hlen : (H8 p ++ rest).length = 32 * p.length + rest.length := by rw [List.length_append, H8_len p hp]
  rw [put_one _ _ _ (by rw [hlen]; omega)]
  rw [← put_H8 p rest k (z.set b y) hp (by rw [List.length_set]; exact hz32) hk]
  have e : B8 (z.set b y) = (B8 z).set b (.int .u8 (y.toNat : Int)) := by
    unfold B8
    rw [List.map_set]
    rfl
  rw [e, put_set _ _ _ _ _ (H8_at_ p hp rest k z hz) (by rw [B8_len]; exact hb) (by rw [B8_len, hz32, hlen]; omega)]
theorem pathNone {hs : List (List UInt8)} {i n : Nat} (hn : hs.length = n) (h : 1 ≤ n) : ((pathS hs i).length = 0) ↔ n = 1 := by
  rw [path_sides hs.length hs i (Nat.le_refl _), hn]
  constructor
  · intro h2
    rcases Nat.lt_or_ge n 2 with h3 | h3
    · omega
    · exact absurd h2 (sides_pos h3)
  · rintro rfl
    rw [sidesS_one i (Nat.le_refl _)]
    rfl
theorem ver_out {root : List UInt8} {n i : Int} {h : List UInt8} {p : List (List UInt8)} (hb : i < 0 ∨ n ≤ i) : verS root n i h p = false := by
  unfold verS
  rw [decide_eq_false_iff_not]
  intro hx
  omega
theorem ver_long {root : List UInt8} {n i : Nat} {h : List UInt8} {p : List (List UInt8)} (hp : p.length ≠ (sidesS n i).length) : verS root (n : Int) (i : Int) h p = false := by
  unfold verS
  rw [decide_eq_false_iff_not]
  intro hx
  exact hp (by simpa using hx.2.2.2.2.1)
theorem ver_true {L : List (List UInt8)} {n i : Nat} {x : List UInt8} (hn : L.length = n) (h1 : n ≤ 1073741824) (hx : L[i]? = some x) : verS (commitS L) (n : Int) (i : Int) x (pathS L i) = true := by
  have hi := (List.getElem?_eq_some_iff.1 hx).1
  unfold verS
  rw [decide_eq_true_eq]
  refine ⟨by omega, by omega, by omega, by omega, ?_, ?_⟩
  · simp only [Int.toNat_natCast]
    rw [path_sides L.length L i (Nat.le_refl _), hn]
  · simp only [Int.toNat_natCast]
    rw [← hn]
    exact path_leads L.length L i x (Nat.le_refl _) hx
end Go.Proofs.Ytakebmpnbdlcoaa
