/- A drawn region walked by a plan: what is taken first; what stands alone; where two or three operations can come up, each. -/
import Derived.Test.YtakebmpnbdlcoaaDraw
import Derived.Deep.MidRow
set_option linter.unusedSimpArgs false
set_option linter.unusedVariables false
namespace Go.Proofs.Ytakebmpnbdlcoaa
open Go.RowKit
set_option maxRecDepth 100000
inductive Plan where
  | done : Plan
  | take : Nat → Plan → Plan
  | one : Nat → Plan → Plan
  | two : Nat → Plan → Nat → Plan → Plan
  | three : Nat → Plan → Nat → Plan → Nat → Plan → Plan
def Plan.depth : Plan → Nat
  | .done => 0
  | .take _ p => p.depth + 1
  | .one _ p => p.depth + 1
  | .two _ p _ q => max p.depth q.depth + 1
  | .three _ p _ q _ r => max p.depth (max q.depth r.depth) + 1
section
variable {P : Program} {ops : Array Oper} {Q : Exit → Act → World → Prop} {R : World → World → Prop}
def planOk (ops : Array Oper) : Plan → Array Bool → Bool
  | .done, listed => Region.ready .any ops listed == []
  | .take i p, listed => Region.free .any ops listed i && (Region.ready .any ops listed).contains i && planOk ops p (listed.setIfInBounds i true)
  | .one i p, listed => Region.ready .any ops listed == [i] && planOk ops p (listed.setIfInBounds i true)
  | .two i p j q, listed => Region.ready .any ops listed == [i, j] && planOk ops p (listed.setIfInBounds i true) && planOk ops q (listed.setIfInBounds j true)
  | .three i p j q k r, listed => Region.ready .any ops listed == [i, j, k] && planOk ops p (listed.setIfInBounds i true) && planOk ops q (listed.setIfInBounds j true) && planOk ops r (listed.setIfInBounds k true)
def wpP (P : Program) (ops : Array Oper) (Q : Exit → Act → World → Prop) (R : World → World → Prop) : Plan → Act → World → Prop
  | .done, a, w => Q .normal a w
  | .take i p, a, w => ∃ o v, ops[i]? = some o ∧ YieldsIf P ops (R w) o v a ∧ wpP P ops Q R p (a.put o.dst v) w
  | .one i p, a, w => wpOp P ops Q i (fun a' w' => R w w' ∧ wpP P ops Q R p a' w') a w
  | .two i p j q, a, w => wpOp P ops Q i (fun a' w' => R w w' ∧ wpP P ops Q R p a' w') a w ∧ wpOp P ops Q j (fun a' w' => R w w' ∧ wpP P ops Q R q a' w') a w
  | .three i p j q k r, a, w => wpOp P ops Q i (fun a' w' => R w w' ∧ wpP P ops Q R p a' w') a w ∧ wpOp P ops Q j (fun a' w' => R w w' ∧ wpP P ops Q R q a' w') a w ∧ wpOp P ops Q k (fun a' w' => R w w' ∧ wpP P ops Q R r a' w') a w
theorem wpAnyH_of_P (hrefl : ∀ w, R w w) (htr : ∀ a b c, R a b → R b c → R a c) (hs : Region.noSelect ops = true) (hQ : ∀ (d : Option Tmp) (v : Value) c a w, Q (.panic c) (a.put d v) w → Q (.panic c) a w) :
    ∀ (p : Plan) (fuel : Nat) (listed : Array Bool) (a : Act) (w : World) (S : World → Prop), planOk ops p listed = true → p.depth ≤ fuel → (∀ w', R w w' → S w') → wpP P ops Q R p a w → wpAnyH P .any ops Q S fuel listed a w
  | .done, fuel, listed, a, w, S, hok, _, _, h => wpAnyH_done (by simpa [planOk] using hok) h fuel
  | .take i p, fuel, listed, a, w, S, hok, hf, hS, h => by
    obtain ⟨f, rfl⟩ : ∃ f, fuel = f + 1 := ⟨fuel - 1, by simp [Plan.depth] at hf; omega⟩
    simp only [planOk, Bool.and_eq_true] at hok
    obtain ⟨o, v, ho, hy, hr⟩ := h
    have ih := wpAnyH_of_P hrefl htr hs hQ p f (listed.setIfInBounds i true) (a.put o.dst v) w (fun w' => S w' ∧ R w w') hok.2 (by simp [Plan.depth] at hf; omega) (fun w' h' => ⟨hS w' h', h'⟩) hr
    refine wpAnyH_weaken (fun w' h' => h'.1) _ _ _ _ (wpAnyH_take (oi := o) (v := v) ho hs hok.1.1 hok.1.2 (fun c a w => hQ o.dst v c a w) ?_ ⟨hS w (hrefl w), hrefl w⟩ ih)
    rcases hy with ⟨h1, h2⟩ | h1
    · exact .inl ⟨h1, fun w' h' => h2 w' h'.2⟩
    · exact .inr h1
  | .one i p, fuel, listed, a, w, S, hok, hf, hS, h => by
    obtain ⟨f, rfl⟩ : ∃ f, fuel = f + 1 := ⟨fuel - 1, by simp [Plan.depth] at hf; omega⟩
    simp only [planOk, Bool.and_eq_true, beq_iff_eq] at hok
    refine wpAnyH_all hok.1 (by simp) fun m hm => ?_
    obtain rfl : m = i := by simpa using hm
    exact wpOp_mono (fun a' w' h' => ⟨hS w' h'.1, wpAnyH_of_P hrefl htr hs hQ p f _ a' w' S hok.2 (by simp [Plan.depth] at hf; omega) (fun w'' h'' => hS w'' (htr _ _ _ h'.1 h'')) h'.2⟩) h
  | .two i p j q, fuel, listed, a, w, S, hok, hf, hS, h => by
    obtain ⟨f, rfl⟩ : ∃ f, fuel = f + 1 := ⟨fuel - 1, by simp [Plan.depth] at hf; omega⟩
    simp only [planOk, Bool.and_eq_true, beq_iff_eq] at hok
    obtain ⟨⟨hr, h1⟩, h2⟩ := hok
    simp only [Plan.depth] at hf
    refine wpAnyH_all hr (by simp) fun m hm => ?_
    rcases List.mem_cons.1 hm with rfl | hm
    · exact wpOp_mono (fun a' w' h' => ⟨hS w' h'.1, wpAnyH_of_P hrefl htr hs hQ p f _ a' w' S h1 (by omega) (fun w'' h'' => hS w'' (htr _ _ _ h'.1 h'')) h'.2⟩) h.1
    · obtain rfl : m = j := by simpa using hm
      exact wpOp_mono (fun a' w' h' => ⟨hS w' h'.1, wpAnyH_of_P hrefl htr hs hQ q f _ a' w' S h2 (by omega) (fun w'' h'' => hS w'' (htr _ _ _ h'.1 h'')) h'.2⟩) h.2
  | .three i p j q k r, fuel, listed, a, w, S, hok, hf, hS, h => by
    obtain ⟨f, rfl⟩ : ∃ f, fuel = f + 1 := ⟨fuel - 1, by simp [Plan.depth] at hf; omega⟩
    simp only [planOk, Bool.and_eq_true, beq_iff_eq] at hok
    obtain ⟨⟨⟨hr, h1⟩, h2⟩, h3⟩ := hok
    simp only [Plan.depth] at hf
    refine wpAnyH_all hr (by simp) fun m hm => ?_
    rcases List.mem_cons.1 hm with rfl | hm
    · exact wpOp_mono (fun a' w' h' => ⟨hS w' h'.1, wpAnyH_of_P hrefl htr hs hQ p f _ a' w' S h1 (by omega) (fun w'' h'' => hS w'' (htr _ _ _ h'.1 h'')) h'.2⟩) h.1
    · rcases List.mem_cons.1 hm with rfl | hm
      · exact wpOp_mono (fun a' w' h' => ⟨hS w' h'.1, wpAnyH_of_P hrefl htr hs hQ q f _ a' w' S h2 (by omega) (fun w'' h'' => hS w'' (htr _ _ _ h'.1 h'')) h'.2⟩) h.2.1
      · obtain rfl : m = k := by simpa using hm
        exact wpOp_mono (fun a' w' h' => ⟨hS w' h'.1, wpAnyH_of_P hrefl htr hs hQ r f _ a' w' S h3 (by omega) (fun w'' h'' => hS w'' (htr _ _ _ h'.1 h'')) h'.2⟩) h.2.2
theorem wp_region_P {id : Nat} {a : Act} {w : World} (p : Plan) (R : World → World → Prop) (hm : P.follows .mixedOrders = true) (hs : Region.noSelect ops = true) (hok : planOk ops p (Array.replicate ops.size false) = true) (hl : p.depth ≤ ops.size)
    (hrefl : ∀ w, R w w) (htr : ∀ a b c, R a b → R b c → R a c) (hQ : ∀ (d : Option Tmp) (v : Value) c a w, Q (.panic c) (a.put d v) w → Q (.panic c) a w)
    (h : wpP P ops Q R p a w.drew) : (Code.region id ops true).wp P Q a w :=
  wp_region_held (S := fun _ => True) hm (wpAnyH_of_P hrefl htr hs hQ p _ _ _ _ _ hok hl (fun _ _ => trivial) h)
/-- operation i is carried out, then the plan p -/
def Loud (P : Program) (ops : Array Oper) (Q : Exit → Act → World → Prop) (R : World → World → Prop) (i : Nat) (p : Plan) (a : Act) (w : World) : Prop := wpOp P ops Q i (fun a' w' => R w w' ∧ wpP P ops Q R p a' w') a w
theorem wpP_done {a : Act} {w : World} (h : Q .normal a w) : wpP P ops Q R .done a w := h
theorem wpP_one {i : Nat} {p : Plan} {a : Act} {w : World} (h : Loud P ops Q R i p a w) : wpP P ops Q R (.one i p) a w := h
theorem wpP_two {i j : Nat} {p q : Plan} {a : Act} {w : World} (h : Loud P ops Q R i p a w) (h2 : Loud P ops Q R j q a w) : wpP P ops Q R (.two i p j q) a w := ⟨h, h2⟩
theorem wpP_three {i j k : Nat} {p q r : Plan} {a : Act} {w : World} (h : Loud P ops Q R i p a w) (h2 : Loud P ops Q R j q a w) (h3 : Loud P ops Q R k r a w) : wpP P ops Q R (.three i p j q k r) a w := ⟨h, h2, h3⟩
theorem below_st {w2 w w' : World} {p : Nat} (h : Below w2.heap.size w2 w) (u : RBut (some p) w w') (hp : w2.heap.size ≤ p) : Below w2.heap.size w2 w' := h.trans (below_but u hp h.size)
theorem wpP_quiet {i : Nat} {p : Plan} {o : Oper} {v : Value} {a : Act} {w : World} (ho : nth ops.toList i = some o) (hw : Region.wanted o (yielded ops a.tmps) = true)
    (hy : ∀ w', R w w' → (execOp a.eval o).run P w' = .ok (.value v) w') (h : wpP P ops Q R p (a.put o.dst v) w) : wpP P ops Q R (.take i p) a w := ⟨o, v, nth_ops ho, .inl ⟨hw, hy⟩, h⟩
theorem wpP_skip {i : Nat} {p : Plan} {o : Oper} {a : Act} {w : World} (ho : nth ops.toList i = some o) (hw : Region.wanted o (yielded ops a.tmps) = false)
    (h : wpP P ops Q R p (a.put o.dst undef) w) : wpP P ops Q R (.take i p) a w := ⟨o, undef, nth_ops ho, .inr ⟨hw, rfl⟩, h⟩
/-- an operation that is carried out -/
theorem wpP_loud {i : Nat} {p : Plan} {o : Oper} {a : Act} {w : World} (ho : nth ops.toList i = some o) (hw : Region.wanted o (yielded ops a.tmps) = true)
    (h : ∀ K : Act → World → Prop, Shut (∀ a' w', R w w' → wpP P ops Q R p a' w' → K a' w') → o.wp P a w K Q) : Loud P ops Q R i p a w := by
  unfold Loud wpOp
  simp only [nth_ops ho, hw, if_true]
  exact .inl (h _ fun a' w' h1 h2 => ⟨h1, h2⟩)
/-- some operations in a row, then a plan -/
def Plan.seq : List (Nat × Bool) → Plan → Plan
  | [], p => p
  | (i, true) :: l, p => .take i (Plan.seq l p)
  | (i, false) :: l, p => .one i (Plan.seq l p)
theorem wpP_load {i : Nat} {p : Plan} {o : Oper} {a : Act} {w : World} (ho : nth ops.toList i = some o) (hw : Region.wanted o (yielded ops a.tmps) = true) (ty : TypeId) (x : Operand) (hop : o.op = .load ty x)
    (b off : Nat) (hx : a.eval x = .pointer (some ⟨b, off, none⟩)) (cs : List Value) (d : TypeDesc) (hS : ∀ w', R w w' → w'.rangeAt b off cs) (hu : P.underlying ty = some d) (hd : d.isRow = true) (hi : (P.info? ty).map (·.size) = some cs.length)
    (h : wpP P ops Q R p (a.put o.dst (.agg cs.toArray)) w) : wpP P ops Q R (.take i p) a w :=
  ⟨o, _, nth_ops ho, yieldsIf_load_mid hw ty x hop b off hx cs d hS hu hd hi, h⟩
theorem wpP_val {i : Nat} {p : Plan} {o : Oper} {v : Value} {a : Act} {w : World} (hrefl : ∀ w, R w w) (ho : nth ops.toList i = some o) (hw : Region.wanted o (yielded ops a.tmps) = true)
    (hy : (execOp a.eval o).run P w = .ok (.value v) w) (h : wpP P ops Q R p (a.put o.dst v) w) : wpP P ops Q R (.one i p) a w := by
  show wpOp P ops Q i (fun a' w' => R w w' ∧ wpP P ops Q R p a' w') a w
  unfold wpOp
  simp only [nth_ops ho, hw, if_true]
  refine .inl ?_
  unfold Oper.wp
  rw [hy]
  exact ⟨hrefl w, h⟩
theorem wpP_skip' {i : Nat} {p : Plan} {o : Oper} {a : Act} {w : World} (hrefl : ∀ w, R w w) (ho : nth ops.toList i = some o) (hw : Region.wanted o (yielded ops a.tmps) = false)
    (h : wpP P ops Q R p (a.put o.dst undef) w) : wpP P ops Q R (.one i p) a w := by
  show wpOp P ops Q i (fun a' w' => R w w' ∧ wpP P ops Q R p a' w') a w
  unfold wpOp
  simp only [nth_ops ho, hw, Bool.false_eq_true, if_false]
  exact ⟨hrefl w, h⟩
theorem wpP_load_f {i : Nat} {p : Plan} {o : Oper} {a : Act} {w : World} (hrefl : ∀ w, R w w) (ho : nth ops.toList i = some o) (hw : Region.wanted o (yielded ops a.tmps) = true) (ty : TypeId) (x : Operand) (hop : o.op = .load ty x)
    (b off : Nat) (hx : a.eval x = .pointer (some ⟨b, off, none⟩)) (cs : List Value) (d : TypeDesc) (hc : w.rangeAt b off cs) (hu : P.underlying ty = some d) (hd : d.isRow = true) (hi : (P.info? ty).map (·.size) = some cs.length)
    (h : wpP P ops Q R p (a.put o.dst (.agg cs.toArray)) w) : wpP P ops Q R (.one i p) a w := by
  show wpOp P ops Q i (fun a' w' => R w w' ∧ wpP P ops Q R p a' w') a w
  unfold wpOp
  simp only [nth_ops ho, hw, if_true]
  refine .inl ?_
  refine wp_load_mid ty x hop b off hx cs d hc hu hd hi ?_
  exact ⟨hrefl w, h⟩
end
end Go.Proofs.Ytakebmpnbdlcoaa
