/- Arrays and structs that fill a block of their own. -/
import Derived.Test.YtoecbgdkbncfbaaDraw
import Derived.Deep.MidRow
namespace Go.Proofs.Ytoecbgdkbncfbaa
open Go.RowKit

/-- Block b holds just the cells cs. -/
def Blk (w : World) (b : Nat) (t : TypeId) (cs : List Value) : Prop := w.heap[b]? = some (.cells cs.toArray t (0, 0))
section
variable {w w' : World} {b : Nat} {t : TypeId} {cs : List Value}
theorem Blk.lt (h : Blk w b t cs) : b < w.heap.size := (Array.getElem?_eq_some_iff.1 h).1
theorem Blk.range (h : Blk w b t cs) : w.rangeAt b 0 cs := fun j v hv => by
  rw [Nat.zero_add, cell_of_row w b j _ _ _ h]
  simpa using hv
theorem Blk.cell (h : Blk w b t cs) (i : Nat) : w.cell? ⟨b, i, none⟩ = cs[i]? := by rw [cell_of_row w b i _ _ _ h]; simp
theorem Blk.fz (h : Blk w b t cs) (i : Nat) : w.frozen? ⟨b, i, none⟩ = false := by unfold Blk at h; simp [World.frozen?, h]
theorem Blk.there (h : Blk w b t cs) : w.there b 0 cs.length := fun j hj => ⟨by rw [Nat.zero_add, h.cell, List.getElem?_eq_getElem hj]; rfl, h.fz _⟩
theorem Blk.new (w : World) (cs : Array Value) (t : TypeId) : Blk (w.alloc (.cells cs t)) w.heap.size t cs.toList := heap_alloc_new w _
theorem Blk.keep (h : Blk w b t cs) (hb : w'.heap[b]? = w.heap[b]?) : Blk w' b t cs := hb.trans h
theorem Blk.below {B : Nat} (h : Blk w b t cs) (hb : Below B w w') (hB : b < B) : Blk w' b t cs := h.keep (hb.block b hB)
theorem Blk.to (h : Blk w b t cs) (hb : Below w.heap.size w w') : Blk w' b t cs := h.below hb h.lt
theorem Blk.but {row : Option Nat} (h : Blk w b t cs) (hb : RBut row w w') (hne : some b ≠ row) : Blk w' b t cs := h.keep (hb.block b h.lt hne)
theorem Blk.set_ (h : Blk w b t cs) (i : Nat) (u : Value) : Blk (w.setCell ⟨b, i, none⟩ u) b t (cs.set i u) := by
  unfold Blk at h ⊢
  simp [World.setCell, Array.getElem?_modify, h]
theorem Blk.sl (h : Blk w b t cs) {size n : Nat} (hl : cs.length = n * size) : Sl w size (some ⟨b, 0, none⟩) n cs :=
  ⟨hl, fun _ => ⟨b, 0, rfl, h.lt, fun j u hu => by rw [Nat.zero_add, h.cell]; exact hu⟩⟩

theorem setCells_blk : ∀ (vs pre : List Value) (w : World) (old : List Value), Blk w b t (pre ++ old) → old.length = vs.length → Blk (w.setCells b pre.length vs) b t (pre ++ vs)
  | [], pre, w, old, h, hl => by
    obtain rfl : old = [] := List.eq_nil_of_length_eq_zero hl
    exact h
  | v :: vs, pre, w, [], h, hl => by simp at hl
  | v :: vs, pre, w, o :: old, h, hl => by
    have h1 := h.set_ pre.length v
    have e1 : (pre ++ o :: old).set pre.length v = (pre ++ [v]) ++ old := by simp
    rw [e1] at h1
    have := setCells_blk vs (pre ++ [v]) _ old h1 (by simpa using hl)
    simp only [List.append_assoc, List.cons_append, List.nil_append, List.length_append, List.length_cons, List.length_nil, Nat.zero_add] at this
    exact this
theorem setCells_but : ∀ (vs : List Value) (o : Nat) (w : World), RBut (some b) w (w.setCells b o vs)
  | [], _, w => RBut.refl_ _ _
  | v :: vs, o, w => RBut.trans_ (some b) w (w.setCell ⟨b, o, none⟩ v) _ ⟨rfl, rfl, rfl, by simp [World.setCell], fun k _ hk => Below.heap_setCell w ⟨b, o, none⟩ v k (fun e => hk (by rw [e]))⟩ (setCells_but vs (o + 1) _)
end

theorem wpl_load_blk {P : Program} {ops : Array Oper} {rest : List Oper} {op : Oper} {a : Act} {w : World} {Q : Exit → Act → World → Prop} (hgd : op.guard = none) (ty : TypeId) (x : Operand) (ho : op.op = .load ty x)
    (b : Nat) (hx : a.eval x = .pointer (some ⟨b, 0, none⟩)) (t : TypeId) (cs : List Value) (d : TypeDesc) (hc : Blk w b t cs)
    (hu : P.underlying ty = some d) (hd : d.isRow = true) (hi : (P.info? ty).map (·.size) = some cs.length)
    (h : wpList P ops Q rest (a.put op.dst (.agg cs.toArray)) w) : wpList P ops Q (op :: rest) a w :=
  wpList_load_mid hgd ty x ho b 0 hx cs d hc.range hu hd hi h
/-- a whole array or struct is stored into a block of its own -/
theorem wpl_store_blk {P : Program} {ops : Array Oper} {rest : List Oper} {op : Oper} {a : Act} {w : World} {Q : Exit → Act → World → Prop} (hgd : op.guard = none) (ty : TypeId) (x y : Operand) (ho : op.op = .store ty x y)
    (b : Nat) (t : TypeId) (old cs : List Value) (hx : a.eval x = .pointer (some ⟨b, 0, none⟩)) (hy : a.eval y = .agg cs.toArray) (hb : Blk w b t old) (hl : old.length = cs.length)
    (hi : (P.info? ty).map (·.size) = some cs.length) (h1 : ∀ v ∈ cs, v.oneCell' = true)
    (h : ∀ w', Blk w' b t cs → RBut (some b) w w' → wpList P ops Q rest (a.put op.dst undef) w') : wpList P ops Q (op :: rest) a w := by
  refine wpList_store_mid hgd ty x y ho b 0 cs.toArray hx hy (by have := hb.there; rw [hl] at this; simpa using this) (by simpa using hi) (all_oneCell_toArray h1) (h _ ?_ ?_)
  · have := setCells_blk cs [] w old (by simpa using hb) hl
    simpa using this
  · simpa using setCells_but cs 0 w

theorem results_blk {P : Program} {fn : Func} {p : Tmp} {ty : TypeId} (hr : fn.results = #[.cell p ty]) {tmps : Array Value} {w : World} {b : Nat} {t : TypeId} {cs : List Value} {d : TypeDesc} (hp : tmps.getD p undef = .pointer (some ⟨b, 0, none⟩)) (hc : Blk w b t cs)
    (hu : P.underlying ty = some d) (hd : d.isRow = true) (hi : (P.info? ty).map (·.size) = some cs.length) : (results fn tmps).run P w = .ok (.agg cs.toArray) w := by
  have hp' : tmps[p]?.getD undef = .pointer (some ⟨b, 0, none⟩) := by simpa using hp
  simp only [results, hr]
  simp [Sem.run_bind, hp', asAddr, run_loadVar_mid w b 0 ty cs d hc.range hu hd hi]

/-- the goal's world by another spelling -/
theorem wp_at {P : Program} {c : Code} {Q : Exit → Act → World → Prop} {a : Act} {w w' : World} (h : w' = w) (hh : c.wp P Q a w') : c.wp P Q a w := h ▸ hh
end Go.Proofs.Ytoecbgdkbncfbaa
