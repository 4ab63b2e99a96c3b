/- Arrays and structs that fill a block of their own. -/
import Derived.Test.YtakebmpnbdlcoaaDraw
import Derived.Deep.MidRow
import Derived.ChangeKeysEq
set_option linter.unusedSimpArgs false
set_option linter.unusedVariables false
namespace Go.Proofs.Ytakebmpnbdlcoaa
open Go.RowKit
set_option maxRecDepth 100000

/-- Block b holds just the cells cs. -/
def Blk (w : World) (b : Nat) (t : TypeId) (cs : List Value) : Prop := w.heap[b]? = some (.cells cs.toArray t (0, 0))
section
variable {w w' : World} {b : Nat} {t : TypeId} {cs : List Value}
theorem Blk.lt (h : Blk w b t cs) : b < w.heap.size := (Array.getElem?_eq_some_iff.1 h).1
theorem Blk.range (h : Blk w b t cs) : w.rangeAt b 0 cs := fun j v hv => by
  rw [Nat.zero_add, cell_of_row w b j _ _ _ h]
  simpa using hv
theorem Blk.cell (h : Blk w b t cs) (i : Nat) : w.cell? ⟨b, i, none⟩ = cs[i]? := by rw [cell_of_row w b i _ _ _ h]; simp
theorem Blk.fz (h : Blk w b t cs) (i : Nat) : w.frozen? ⟨b, i, none⟩ = false := by unfold Blk at h; simp [World.frozen?, h]
theorem Blk.there (h : Blk w b t cs) : w.there b 0 cs.length := fun j hj => ⟨by rw [Nat.zero_add, h.cell, List.getElem?_eq_getElem hj]; rfl, h.fz _⟩
theorem Blk.new (w : World) (cs : Array Value) (t : TypeId) : Blk (w.alloc (.cells cs t)) w.heap.size t cs.toList := heap_alloc_new w _
theorem Blk.keep (h : Blk w b t cs) (hb : w'.heap[b]? = w.heap[b]?) : Blk w' b t cs := hb.trans h
theorem Blk.below {B : Nat} (h : Blk w b t cs) (hb : Below B w w') (hB : b < B) : Blk w' b t cs := h.keep (hb.block b hB)
theorem Blk.to (h : Blk w b t cs) (hb : Below w.heap.size w w') : Blk w' b t cs := h.below hb h.lt
theorem Blk.but {row : Option Nat} (h : Blk w b t cs) (hb : RBut row w w') (hne : some b ≠ row) : Blk w' b t cs := h.keep (hb.block b h.lt hne)
theorem Blk.set_ (h : Blk w b t cs) (i : Nat) (u : Value) : Blk (w.setCell ⟨b, i, none⟩ u) b t (cs.set i u) := by
  unfold Blk at h ⊢
  simp [World.setCell, Array.getElem?_modify, h]
theorem Blk.sl (h : Blk w b t cs) {size n : Nat} (hl : cs.length = n * size) : Sl w size (some ⟨b, 0, none⟩) n cs :=
  ⟨hl, fun _ => ⟨b, 0, rfl, h.lt, fun j u hu => by rw [Nat.zero_add, h.cell]; exact hu⟩⟩

theorem setCells_blk : ∀ (vs pre : List Value) (w : World) (old : List Value), Blk w b t (pre ++ old) → old.length = vs.length → Blk (w.setCells b pre.length vs) b t (pre ++ vs)
  | [], pre, w, old, h, hl => by
    obtain rfl : old = [] := List.eq_nil_of_length_eq_zero hl
    exact h
  | v :: vs, pre, w, [], h, hl => by simp at hl
  | v :: vs, pre, w, o :: old, h, hl => by
    have h1 := h.set_ pre.length v
    have e1 : (pre ++ o :: old).set pre.length v = (pre ++ [v]) ++ old := by simp
    rw [e1] at h1
    have := setCells_blk vs (pre ++ [v]) _ old h1 (by simpa using hl)
    simp only [List.append_assoc, List.cons_append, List.nil_append, List.length_append, List.length_cons, List.length_nil, Nat.zero_add] at this
    exact this
theorem setCells_but : ∀ (vs : List Value) (o : Nat) (w : World), RBut (some b) w (w.setCells b o vs)
  | [], _, w => RBut.refl_ _ _
  | v :: vs, o, w => RBut.trans_ (some b) w (w.setCell ⟨b, o, none⟩ v) _ ⟨rfl, rfl, rfl, by simp [World.setCell], fun k _ hk => Below.heap_setCell w ⟨b, o, none⟩ v k (fun e => hk (by rw [e]))⟩ (setCells_but vs (o + 1) _)
end

theorem wpl_load_blk {P : Program} {ops : Array Oper} {rest : List Oper} {op : Oper} {a : Act} {w : World} {Q : Exit → Act → World → Prop} (hgd : op.guard = none) (ty : TypeId) (x : Operand) (ho : op.op = .load ty x)
    (b : Nat) (hx : a.eval x = .pointer (some ⟨b, 0, none⟩)) (t : TypeId) (cs : List Value) (d : TypeDesc) (hc : Blk w b t cs)
    (hu : P.underlying ty = some d) (hd : d.isRow = true) (hi : (P.info? ty).map (·.size) = some cs.length)
    (h : wpList P ops Q rest (a.put op.dst (.agg cs.toArray)) w) : wpList P ops Q (op :: rest) a w :=
  wpList_load_mid hgd ty x ho b 0 hx cs d hc.range hu hd hi h
theorem wpList_wanted {P : Program} {ops : Array Oper} {rest : List Oper} {o : Oper} {a : Act} {w : World} {Q : Exit → Act → World → Prop} (hw : Region.wanted o (yielded ops a.tmps) = true)
    (h : o.wp P a w (wpList P ops Q rest) Q) : wpList P ops Q (o :: rest) a w := by
  unfold wpList
  rw [if_pos hw]
  exact .inl h
theorem wpl_load_blk' {P : Program} {ops : Array Oper} {rest : List Oper} {op : Oper} {a : Act} {w : World} {Q : Exit → Act → World → Prop} (hw : Region.wanted op (yielded ops a.tmps) = true) (ty : TypeId) (x : Operand) (ho : op.op = .load ty x)
    (b : Nat) (hx : a.eval x = .pointer (some ⟨b, 0, none⟩)) (t : TypeId) (cs : List Value) (d : TypeDesc) (hc : Blk w b t cs)
    (hu : P.underlying ty = some d) (hd : d.isRow = true) (hi : (P.info? ty).map (·.size) = some cs.length)
    (h : wpList P ops Q rest (a.put op.dst (.agg cs.toArray)) w) : wpList P ops Q (op :: rest) a w :=
  wpList_wanted hw (wp_load_mid ty x ho b 0 hx cs d hc.range hu hd hi h)
/-- a whole array or struct is stored into a block of its own -/
theorem wpl_store_blk {P : Program} {ops : Array Oper} {rest : List Oper} {op : Oper} {a : Act} {w : World} {Q : Exit → Act → World → Prop} (hgd : op.guard = none) (ty : TypeId) (x y : Operand) (ho : op.op = .store ty x y)
    (b : Nat) (t : TypeId) (old cs : List Value) (hx : a.eval x = .pointer (some ⟨b, 0, none⟩)) (hy : a.eval y = .agg cs.toArray) (hb : Blk w b t old) (hl : old.length = cs.length)
    (hi : (P.info? ty).map (·.size) = some cs.length) (h1 : ∀ v ∈ cs, v.oneCell' = true)
    (h : ∀ w', Blk w' b t cs → RBut (some b) w w' → wpList P ops Q rest (a.put op.dst undef) w') : wpList P ops Q (op :: rest) a w := by
  refine wpList_store_mid hgd ty x y ho b 0 cs.toArray hx hy (by have := hb.there; rw [hl] at this; simpa using this) (by simpa using hi) (all_oneCell_toArray h1) (h _ ?_ ?_)
  · have := setCells_blk cs [] w old (by simpa using hb) hl
    simpa using this
  · simpa using setCells_but cs 0 w

theorem results_blk {P : Program} {fn : Func} {p : Tmp} {ty : TypeId} (hr : fn.results = #[.cell p ty]) {tmps : Array Value} {w : World} {b : Nat} {t : TypeId} {cs : List Value} {d : TypeDesc} (hp : tmps.getD p undef = .pointer (some ⟨b, 0, none⟩)) (hc : Blk w b t cs)
    (hu : P.underlying ty = some d) (hd : d.isRow = true) (hi : (P.info? ty).map (·.size) = some cs.length) : (results fn tmps).run P w = .ok (.agg cs.toArray) w := by
  have hp' : tmps[p]?.getD undef = .pointer (some ⟨b, 0, none⟩) := by simpa using hp
  simp only [results, hr]
  simp [Sem.run_bind, hp', asAddr, run_loadVar_mid w b 0 ty cs d hc.range hu hd hi]

/-- a load of a whole block in a drawn region, where nothing else can come up -/
theorem wpC_load_blk {P : Program} {ops : Array Oper} {Q : Exit → Act → World → Prop} {R : World → World → Prop} {i : Nat} {rest : List (Nat × Bool)} {o : Oper} {a : Act} {w : World} (hrefl : ∀ w, R w w) (ho : nth ops.toList i = some o) (hw : Region.wanted o (yielded ops a.tmps) = true) (ty : TypeId) (x : Operand) (hop : o.op = .load ty x)
    (b : Nat) (hx : a.eval x = .pointer (some ⟨b, 0, none⟩)) (t : TypeId) (cs : List Value) (d : TypeDesc) (hc : Blk w b t cs) (hu : P.underlying ty = some d) (hd : d.isRow = true) (hi : (P.info? ty).map (·.size) = some cs.length)
    (h : wpC P ops Q R rest (a.put o.dst (.agg cs.toArray)) w) : wpC P ops Q R ((i, false) :: rest) a w := by
  unfold wpC wpOp
  simp only [nth_ops ho, hw, if_true]
  refine .inl ?_
  refine wp_load_mid ty x hop b 0 hx cs d hc.range hu hd hi ?_
  exact ⟨hrefl w, h⟩
/-- a store of a whole block in a drawn region -/
theorem wpC_store_blk {P : Program} {ops : Array Oper} {Q : Exit → Act → World → Prop} {R : World → World → Prop} {i : Nat} {rest : List (Nat × Bool)} {o : Oper} {a : Act} {w : World} (ho : nth ops.toList i = some o) (hw : Region.wanted o (yielded ops a.tmps) = true) (ty : TypeId) (x y : Operand) (hop : o.op = .store ty x y)
    (b : Nat) (t : TypeId) (old cs : List Value) (hx : a.eval x = .pointer (some ⟨b, 0, none⟩)) (hy : a.eval y = .agg cs.toArray) (hb : Blk w b t old) (hl : old.length = cs.length)
    (hi : (P.info? ty).map (·.size) = some cs.length) (h1 : ∀ v ∈ cs, v.oneCell' = true) (hR : ∀ w', RBut (some b) w w' → R w w')
    (h : ∀ w', Blk w' b t cs → RBut (some b) w w' → wpC P ops Q R rest (a.put o.dst undef) w') : wpC P ops Q R ((i, false) :: rest) a w := by
  unfold wpC wpOp
  simp only [nth_ops ho, hw, if_true]
  refine .inl ?_
  have hbl := setCells_blk cs [] w old (by simpa using hb) hl
  have hbu := setCells_but (b := b) cs 0 w
  refine wp_store_mid ty x y hop b 0 cs.toArray hx hy (by have := hb.there; rw [hl] at this; simpa using this) (by simpa using hi) (all_oneCell_toArray h1) ⟨hR _ (by simpa using hbu), h _ (by simpa using hbl) (by simpa using hbu)⟩
/-- a whole array or struct is stored into the block that was just made -/
theorem wpl_store_new {P : Program} {ops : Array Oper} {rest : List Oper} {op : Oper} {a : Act} {w : World} {Q : Exit → Act → World → Prop} (hgd : op.guard = none) (ty : TypeId) (x y : Operand) (ho : op.op = .store ty x y)
    (t : TypeId) (cur : Array Value) (cs : List Value) (hx : a.eval x = .pointer (some ⟨w.heap.size, 0, none⟩)) (hy : a.eval y = .agg cs.toArray) (hl : cur.size = cs.length)
    (hi : (P.info? ty).map (·.size) = some cs.length) (h1 : ∀ v ∈ cs, v.oneCell' = true)
    (h : ∀ w', Blk w' w.heap.size t cs → Below w.heap.size w w' → wpList P ops Q rest (a.put op.dst undef) w') : wpList P ops Q (op :: rest) a (w.alloc (.cells cur t)) := by
  refine wpl_store_blk hgd ty x y ho w.heap.size t cur.toList cs hx hy (Blk.new w cur t) (by simpa using hl) hi h1 fun w' h2 h3 => h w' h2 ?_
  exact ((Below.refl _ _).alloc (Nat.le_refl _) _).trans (below_but h3 (Nat.le_refl _) (by simp))

section
variable {P : Program}
theorem eqItems_bytes {e : TypeId} (he : P.underlying e = some (.int .u8)) (d : Nat) (a b : List UInt8) (w : World) : ∀ l : List Nat, (∀ i ∈ l, i < a.length ∧ i < b.length) →
    (Op.eqItems (d + 1) e 1 (B8 a).toArray (B8 b).toArray l).run P w = .ok (decide (∀ i ∈ l, a[i]? = b[i]?)) w
  | [], _ => by simp [Op.eqItems]
  | i :: l, h => by
    obtain ⟨ha, hb⟩ := h i (by simp)
    have hp : P.plainKey e = true := by unfold Program.plainKey; rw [he]
    have pa := run_part_plain (P := P) w hp (xs := (B8 a).toArray) (off := i) (v := .int .u8 (a[i].toNat : Int)) (by simp [B8, b8, ha])
    have pb := run_part_plain (P := P) w hp (xs := (B8 b).toArray) (off := i) (v := .int .u8 (b[i].toNat : Int)) (by simp [B8, b8, hb])
    have ih := eqItems_bytes he d a b w l (fun j hj => h j (by simp [hj]))
    have hq : (Op.equalIn (d + 1) e (.int .u8 (a[i].toNat : Int)) (.int .u8 (b[i].toNat : Int))).run P w = .ok ((a[i].toNat : Int) == (b[i].toNat : Int)) w := run_equalIn_int w d e .u8 .u8 _ _ he
    simp only [Op.eqItems, Sem.run_bind, Nat.mul_one, pa, pb, hq, Result.andThen_ok]
    by_cases hab : a[i] = b[i]
    · have : ((a[i].toNat : Int) == (b[i].toNat : Int)) = true := by simp [hab]
      rw [this]
      simp only [Bool.not_true, Bool.false_eq_true, if_false]
      rw [ih]
      congr 1
      simp [ha, hb, hab]
    · have hne : a[i].toNat ≠ b[i].toNat := fun h => hab (UInt8.toNat_inj.1 h)
      have : ((a[i].toNat : Int) == (b[i].toNat : Int)) = false := by simp; omega
      rw [this]
      simp only [Bool.not_false, if_true]
      have hd : (decide (∀ j ∈ i :: l, a[j]? = b[j]?)) = false := by
        rw [decide_eq_false_iff_not]
        intro hall
        have := hall i (by simp)
        simp [ha, hb] at this
        exact hab this
      rw [hd]
      rfl
theorem eq_bytes {t e : TypeId} {k : Nat} {i : TypeInfo} (ht : P.underlying t = some (.array k e)) (he : P.underlying e = some (.int .u8)) (hi : P.info? e = some i) (hc : P.cellsOf e = 1) (d : Nat) (a b : List UInt8) (ha : a.length = k) (hb : b.length = k) (w : World) :
    (Op.equalIn (d + 2) t (.agg (B8 a).toArray) (.agg (B8 b).toArray)).run P w = .ok (decide (a = b)) w := by
  rw [run_equalIn_array w (d + 1) _ _ ht hi, hc, eqItems_bytes he d a b w (List.range k) (fun i hi => by simp at hi; omega)]
  congr 1
  rw [decide_eq_decide]
  constructor
  · intro h
    refine List.ext_getElem? fun j => ?_
    rcases Nat.lt_or_ge j k with hj | hj
    · exact h j (by simpa using hj)
    · rw [List.getElem?_eq_none (by omega), List.getElem?_eq_none (by omega)]
  · rintro rfl
    exact fun _ _ => rfl
end
/-- All is as it was, but for cell i of block p. -/
def RCell (p i : Nat) (w w' : World) : Prop := RBut (some p) w w' ∧ ∀ j, j ≠ i → w'.cell? ⟨p, j, none⟩ = w.cell? ⟨p, j, none⟩
theorem RCell.refl_ (p i : Nat) (w : World) : RCell p i w w := ⟨RBut.refl_ _ _, fun _ _ => rfl⟩
theorem RCell.trans_ (p i : Nat) (a b c : World) (h : RCell p i a b) (k : RCell p i b c) : RCell p i a c := ⟨RBut.trans_ _ _ _ _ h.1 k.1, fun j hj => (k.2 j hj).trans (h.2 j hj)⟩
theorem RBut.setC (w : World) (p i : Nat) (v : Value) : RBut (some p) w (w.setCell ⟨p, i, none⟩ v) :=
  ⟨rfl, rfl, rfl, by simp [World.setCell], fun k _ hk => Below.heap_setCell _ _ _ _ (fun e => hk (by rw [e]))⟩
theorem RCell.set_ {w : World} {p i : Nat} {t : TypeId} {cs : List Value} (h : Blk w p t cs) (v : Value) : RCell p i w (w.setCell ⟨p, i, none⟩ v) :=
  ⟨RBut.setC _ _ _ _, fun j hj => by rw [(h.set_ i v).cell, h.cell, List.getElem?_set_ne (Ne.symm hj)]⟩
theorem RCell.drew (p i : Nat) (w : World) : RCell p i w w.drew := ⟨RBut.of_below (Below.refl _ _).drew, fun _ _ => rfl⟩
/-- the goal's world by another spelling -/
theorem wp_at {P : Program} {c : Code} {Q : Exit → Act → World → Prop} {a : Act} {w w' : World} (h : w' = w) (hh : c.wp P Q a w') : c.wp P Q a w := h ▸ hh
theorem wpl_at {P : Program} {ops : Array Oper} {rest : List Oper} {Q : Exit → Act → World → Prop} {a : Act} {w w' : World} (h : w' = w) (hh : wpList P ops Q rest a w') : wpList P ops Q rest a w := h ▸ hh
end Go.Proofs.Ytakebmpnbdlcoaa
