/- A deferred function whose region draws the order of its first two operations. -/
import Derived.Test.YtoecbgdkbncfbaaLib
import Derived.Recover
import Derived.Orders
import Derived.OrdersHeld
namespace Go.Proofs.Ytoecbgdkbncfbaa
open Go.RowKit

theorem wpS_region_draw {P : Program} {Q : Exit → Act → List Frame → World → Prop} {a : Act} {cs : List Frame} {w : World} {id : Nat} {ops : Array Oper}
    (h : ∀ t, wpOpsS P ops Q (Region.schedule (P.follows .mixedOrders) ops t) a cs { w with drawn := w.drawn + 1 }) : (Code.region id ops true).wpS P Q a cs w :=
  fun b k hb hr => let ⟨e, a', cs', w', q, r⟩ := wp_opsS _ a cs _ (h _) b k hb hr; ⟨e, a', cs', w', q, .of_steps (.one step_region_draw) r⟩

theorem go_step_ready (ops : Array Oper) (fuel t : Nat) (listed : Array Bool) (acc : List Nat) (i : Nat) (h : (Region.ready .any ops listed)[t % (Region.ready .any ops listed).length]? = some i) :
    Region.linearise.go .any ops (fuel + 1) t listed acc = Region.linearise.go .any ops fuel (t / (Region.ready .any ops listed).length) (listed.setIfInBounds i true) (i :: acc) := by
  conv => lhs; unfold Region.linearise.go
  show (match (Region.ready .any ops listed)[t % (Region.ready .any ops listed).length]? with
      | some i => Region.linearise.go .any ops fuel (t / (Region.ready .any ops listed).length) (listed.setIfInBounds i true) (i :: acc)
      | none => acc.reverse) = _
  rw [h]

theorem sched3 (ops : Array Oper) (t : Nat) (hs : ops.size = 3) (h0 : Region.ready .any ops #[false, false, false] = [0, 1]) (h1 : Region.ready .any ops #[true, false, false] = [1]) (h2 : Region.ready .any ops #[false, true, false] = [0]) (h3 : Region.ready .any ops #[true, true, false] = [2]) :
    Region.schedule true ops t = [0, 1, 2] ∨ Region.schedule true ops t = [1, 0, 2] := by
  simp only [Region.schedule, Bool.true_or, if_true, Region.linearise, hs]
  have e0 : (Array.replicate 3 false) = #[false, false, false] := rfl
  rw [e0]
  rcases Nat.mod_two_eq_zero_or_one t with ht | ht
  · left
    rw [go_step_ready ops 2 t _ _ 0 (by rw [h0]; simp [ht]), go_step_ready ops 1 _ _ _ 1 (by simp [h1, Nat.mod_one]), go_step_ready ops 0 _ _ _ 2 (by simp [h3, Nat.mod_one])]
    simp [Region.linearise.go]
  · right
    rw [go_step_ready ops 2 t _ _ 1 (by rw [h0]; simp [ht]), go_step_ready ops 1 _ _ _ 0 (by simp [h2, Nat.mod_one]), go_step_ready ops 0 _ _ _ 2 (by simp [h3, Nat.mod_one])]
    simp [Region.linearise.go]

theorem wpS_region3 {P : Program} {Q : Exit → Act → List Frame → World → Prop} {a : Act} {cs : List Frame} {w : World} {id : Nat} {ops : Array Oper} (hm : P.follows .mixedOrders = true)
    (hs : ops.size = 3) (h0 : Region.ready .any ops #[false, false, false] = [0, 1]) (h1 : Region.ready .any ops #[true, false, false] = [1]) (h2 : Region.ready .any ops #[false, true, false] = [0]) (h3 : Region.ready .any ops #[true, true, false] = [2])
    (ha : wpOpsS P ops Q [0, 1, 2] a cs w.drew) (hb : wpOpsS P ops Q [1, 0, 2] a cs w.drew) : (Code.region id ops true).wpS P Q a cs w :=
  wpS_region_draw fun t => by
    rw [hm]
    rcases sched3 ops t hs h0 h1 h2 h3 with h | h
    · rw [h]; exact ha
    · rw [h]; exact hb
end Go.Proofs.Ytoecbgdkbncfbaa
