/- A region that draws its order, walked in ONE order: what only reads is taken as soon as it may be, under a relation R between worlds that whatever else the region does keeps. -/
import Derived.Test.YtakebmpnbdlcoaaLib
import Derived.OrdersHeld
import Derived.Deep.RegionHeld
import Derived.Deep.MidRow
set_option linter.unusedSimpArgs false
set_option linter.unusedVariables false
namespace Go.Proofs.Ytakebmpnbdlcoaa
open Go.RowKit
set_option maxRecDepth 100000

section
variable {P : Program} {ops : Array Oper} {Q : Exit → Act → World → Prop} {R : World → World → Prop}

/-- Operation number i, by walking the list (so that it is found written out). -/
def nth : List Oper → Nat → Option Oper
  | [], _ => none
  | o :: _, 0 => some o
  | _ :: l, n + 1 => nth l n
theorem nth_eq : ∀ (l : List Oper) (i : Nat), nth l i = l[i]?
  | [], _ => by simp [nth]
  | o :: _, 0 => by simp [nth]
  | _ :: l, n + 1 => by simp [nth, nth_eq l n]
theorem nth_ops {i : Nat} {o : Oper} (h : nth ops.toList i = some o) : ops[i]? = some o := by rw [nth_eq] at h; simpa using h
/-- The walk in the order given: at (i, true) operation i yields its value in every world that R leads to; at (i, false) it is carried out. -/
def wpC (P : Program) (ops : Array Oper) (Q : Exit → Act → World → Prop) (R : World → World → Prop) : List (Nat × Bool) → Act → World → Prop
  | [], a, w => Q .normal a w
  | (i, true) :: rest, a, w => ∃ o v, ops[i]? = some o ∧ YieldsIf P ops (R w) o v a ∧ wpC P ops Q R rest (a.put o.dst v) w
  | (i, false) :: rest, a, w => wpOp P ops Q i (fun a' w' => R w w' ∧ wpC P ops Q R rest a' w') a w

def canonOk (ops : Array Oper) : List (Nat × Bool) → Array Bool → Bool
  | [], listed => Region.ready .any ops listed == []
  | (i, true) :: rest, listed => Region.free .any ops listed i && (Region.ready .any ops listed).contains i && canonOk ops rest (listed.setIfInBounds i true)
  | (i, false) :: rest, listed => Region.ready .any ops listed == [i] && canonOk ops rest (listed.setIfInBounds i true)

theorem wpAnyH_weaken {S S' : World → Prop} (hS : ∀ w, S w → S' w) : ∀ (fuel : Nat) (listed : Array Bool) (a : Act) (w : World), wpAnyH P .any ops Q S fuel listed a w → wpAnyH P .any ops Q S' fuel listed a w
  | 0, _, _, _, h => h
  | fuel + 1, _, _, _, h => ⟨h.1, fun i hi => wpOp_mono (fun a' w' h' => ⟨hS _ h'.1, wpAnyH_weaken hS fuel _ a' w' h'.2⟩) (h.2 i hi)⟩

theorem wpAnyH_of_C (hrefl : ∀ w, R w w) (htr : ∀ a b c, R a b → R b c → R a c) (hs : Region.noSelect ops = true) (hQ : ∀ (d : Option Tmp) (v : Value) c a w, Q (.panic c) (a.put d v) w → Q (.panic c) a w) :
    ∀ (l : List (Nat × Bool)) (fuel : Nat) (listed : Array Bool) (a : Act) (w : World) (S : World → Prop), canonOk ops l listed = true → l.length ≤ fuel → (∀ w', R w w' → S w') → wpC P ops Q R l a w →
      wpAnyH P .any ops Q S fuel listed a w
  | [], fuel, listed, a, w, S, hok, _, _, h => wpAnyH_done (by simpa [canonOk] using hok) h fuel
  | (i, true) :: rest, fuel, listed, a, w, S, hok, hf, hS, h => by
    obtain ⟨f, rfl⟩ : ∃ f, fuel = f + 1 := ⟨fuel - 1, by simp at hf; omega⟩
    simp only [canonOk, Bool.and_eq_true] at hok
    obtain ⟨o, v, ho, hy, hr⟩ := h
    have ih := wpAnyH_of_C hrefl htr hs hQ rest f (listed.setIfInBounds i true) (a.put o.dst v) w (fun w' => S w' ∧ R w w') hok.2 (by simp at hf; omega) (fun w' h' => ⟨hS w' h', h'⟩) hr
    refine wpAnyH_weaken (fun w' h' => h'.1) _ _ _ _ (wpAnyH_take (oi := o) (v := v) ho hs hok.1.1 hok.1.2 (fun c a w => hQ o.dst v c a w) ?_ ⟨hS w (hrefl w), hrefl w⟩ ih)
    rcases hy with ⟨h1, h2⟩ | h1
    · exact .inl ⟨h1, fun w' h' => h2 w' h'.2⟩
    · exact .inr h1
  | (i, false) :: rest, fuel, listed, a, w, S, hok, hf, hS, h => by
    obtain ⟨f, rfl⟩ : ∃ f, fuel = f + 1 := ⟨fuel - 1, by simp at hf; omega⟩
    simp only [canonOk, Bool.and_eq_true, beq_iff_eq] at hok
    refine wpAnyH_all hok.1 (by simp) fun j hj => ?_
    obtain rfl : j = i := by simpa using hj
    exact wpOp_mono (fun a' w' h' => ⟨hS w' h'.1, wpAnyH_of_C hrefl htr hs hQ rest f _ a' w' S hok.2 (by simp at hf; omega) (fun w'' h'' => hS w'' (htr _ _ _ h'.1 h'')) h'.2⟩) h

theorem wp_region_C {id : Nat} {a : Act} {w : World} (l : List (Nat × Bool)) (R : World → World → Prop) (hm : P.follows .mixedOrders = true) (hs : Region.noSelect ops = true) (hok : canonOk ops l (Array.replicate ops.size false) = true) (hl : l.length ≤ ops.size)
    (hrefl : ∀ w, R w w) (htr : ∀ a b c, R a b → R b c → R a c) (hQ : ∀ (d : Option Tmp) (v : Value) c a w, Q (.panic c) (a.put d v) w → Q (.panic c) a w)
    (h : wpC P ops Q R l a w.drew) : (Code.region id ops true).wp P Q a w :=
  wp_region_held (S := fun _ => True) hm (wpAnyH_of_C hrefl htr hs hQ l _ _ _ _ _ hok hl (fun _ _ => trivial) h)

theorem wpC_nil {a : Act} {w : World} (h : Q .normal a w) : wpC P ops Q R [] a w := h
/-- an operation that yields its value in every world that R leads to -/
theorem wpC_quiet {i : Nat} {rest : List (Nat × Bool)} {o : Oper} {v : Value} {a : Act} {w : World} (ho : nth ops.toList i = some o) (hw : Region.wanted o (yielded ops a.tmps) = true)
    (hy : ∀ w', R w w' → (execOp a.eval o).run P w' = .ok (.value v) w') (h : wpC P ops Q R rest (a.put o.dst v) w) : wpC P ops Q R ((i, true) :: rest) a w := ⟨o, v, nth_ops ho, .inl ⟨hw, hy⟩, h⟩
/-- an operation that is not wanted -/
theorem wpC_skip {i : Nat} {rest : List (Nat × Bool)} {o : Oper} {a : Act} {w : World} (ho : nth ops.toList i = some o) (hw : Region.wanted o (yielded ops a.tmps) = false)
    (h : wpC P ops Q R rest (a.put o.dst undef) w) : wpC P ops Q R ((i, true) :: rest) a w := ⟨o, undef, nth_ops ho, .inr ⟨hw, rfl⟩, h⟩
theorem wpC_skip' {i : Nat} {rest : List (Nat × Bool)} {o : Oper} {a : Act} {w : World} (hrefl : ∀ w, R w w) (ho : nth ops.toList i = some o) (hw : Region.wanted o (yielded ops a.tmps) = false)
    (h : wpC P ops Q R rest (a.put o.dst undef) w) : wpC P ops Q R ((i, false) :: rest) a w := by
  unfold wpC wpOp
  simp only [nth_ops ho, hw, Bool.false_eq_true, if_false]
  exact ⟨hrefl w, h⟩
/-- a load of an array or a struct that nothing that is to come changes -/
theorem wpC_load {i : Nat} {rest : List (Nat × Bool)} {o : Oper} {a : Act} {w : World} (ho : nth ops.toList i = some o) (hw : Region.wanted o (yielded ops a.tmps) = true) (ty : TypeId) (x : Operand) (hop : o.op = .load ty x)
    (b off : Nat) (hx : a.eval x = .pointer (some ⟨b, off, none⟩)) (cs : List Value) (d : TypeDesc) (hS : ∀ w', R w w' → w'.rangeAt b off cs) (hu : P.underlying ty = some d) (hd : d.isRow = true) (hi : (P.info? ty).map (·.size) = some cs.length)
    (h : wpC P ops Q R rest (a.put o.dst (.agg cs.toArray)) w) : wpC P ops Q R ((i, true) :: rest) a w :=
  ⟨o, _, nth_ops ho, yieldsIf_load_mid hw ty x hop b off hx cs d hS hu hd hi, h⟩
/-- an operation that yields its value, and nothing else can come up -/
theorem wpC_val {i : Nat} {rest : List (Nat × Bool)} {o : Oper} {v : Value} {a : Act} {w : World} (hrefl : ∀ w, R w w) (ho : nth ops.toList i = some o) (hw : Region.wanted o (yielded ops a.tmps) = true)
    (hy : (execOp a.eval o).run P w = .ok (.value v) w) (h : wpC P ops Q R rest (a.put o.dst v) w) : wpC P ops Q R ((i, false) :: rest) a w := by
  unfold wpC wpOp
  simp only [nth_ops ho, hw, if_true]
  refine .inl ?_
  unfold Oper.wp
  rw [hy]
  exact ⟨hrefl w, h⟩
/-- an operation that is carried out -/
theorem wpC_loud {i : Nat} {rest : List (Nat × Bool)} {o : Oper} {a : Act} {w : World} (ho : nth ops.toList i = some o) (hw : Region.wanted o (yielded ops a.tmps) = true)
    (h : ∀ K : Act → World → Prop, Shut (∀ a' w', R w w' → wpC P ops Q R rest a' w' → K a' w') → o.wp P a w K Q) : wpC P ops Q R ((i, false) :: rest) a w := by
  unfold wpC wpOp
  simp only [nth_ops ho, hw, if_true]
  exact .inl (h _ fun a' w' h1 h2 => ⟨h1, h2⟩)
end

/-! ### relations between worlds -/
/-- All blocks that were there are as they were. -/
def RBel (w w' : World) : Prop := Below w.heap.size w w'
theorem RBel.refl_ (w : World) : RBel w w := Below.refl _ _
theorem RBel.trans_ (a b c : World) (h : RBel a b) (k : RBel b c) : RBel a c := Below.trans h (Below.mono k h.size)
/-- All blocks that were there are as they were, but for one. -/
def RBut (row : Option Nat) (w w' : World) : Prop := w.grownBy w' row
theorem RBut.refl_ (row : Option Nat) (w : World) : RBut row w w := ⟨rfl, rfl, rfl, Nat.le_refl _, fun _ _ _ => rfl⟩
theorem RBut.trans_ (row : Option Nat) (a b c : World) (h : RBut row a b) (k : RBut row b c) : RBut row a c := grown_trans' h k fun _ h => .inl h
theorem RBut.of_below {row : Option Nat} {w w' : World} (h : Below w.heap.size w w') : RBut row w w' := grown_of_below h row
theorem Sl.but {w w' : World} {row : Option Nat} {size n : Nat} {b o : Nat} {xs : List Value} (h : Sl w size (some ⟨b, o, none⟩) n xs) (hr : RBut row w w') (hne : some b ≠ row) : Sl w' size (some ⟨b, o, none⟩) n xs :=
  ⟨h.len, fun hn => by
    obtain ⟨b', o', e, hb, hc⟩ := h.cells hn
    simp only [Option.some.injEq, Addr.mk.injEq, and_true] at e
    obtain ⟨rfl, rfl⟩ := e
    exact ⟨b, o, rfl, Nat.lt_of_lt_of_le hb hr.size, fun j u hu => (World.cell?_of_block (a := ⟨b, o + j, none⟩) (hr.block b hb hne)).trans (hc j u hu)⟩⟩

theorem own_but {w w' : World} {row : Option Nat} {B : Nat} {e : TypeId} {size n c : Nat} {A : Option Addr} {xs : List Value} (h : Own w B e size A n c xs) (hr : RBut row w w') (hne : ∀ k, row = some k → k < B) : Own w' B e size A n c xs :=
  h.kept2 hr (by
    cases hA : A.map (·.block) with
    | none => exact .inl rfl
    | some k =>
      right
      intro he
      have h1 := (h.lt k hA).1
      have h2 := hne k he.symm
      omega)
theorem own_ne {w : World} {B : Nat} {e : TypeId} {size n c : Nat} {A : Option Addr} {xs : List Value} (h : Own w B e size A n c xs) : ∀ k, A.map (·.block) = some k → k < w.heap.size := fun k hk => (h.lt k hk).2
/-- what only a block of the call's own has turned in -/
theorem below_but {w w' : World} {B p : Nat} (h : RBut (some p) w w') (hp : B ≤ p) (hB : B ≤ w.heap.size) : Below B w w' :=
  ⟨h.os, h.tape, h.output, h.size, fun k hk => h.block k (by omega) (fun e => by injection e; omega)⟩
theorem range_keep {w w' : World} {b o : Nat} {cs : List Value} (h : w.rangeAt b o cs) (hb : w'.heap[b]? = w.heap[b]?) : w'.rangeAt b o cs := fun j v hv => (World.cell?_of_block (a := ⟨b, o + j, none⟩) hb).trans (h j v hv)
theorem range_new (w : World) (cs : Array Value) (t : TypeId) (fr : Nat × Nat) : (w.alloc (.cells cs t fr)).rangeAt w.heap.size 0 cs.toList := fun j v hv => by
  rw [Nat.zero_add, cell_of_row _ w.heap.size j cs t fr (heap_alloc_new w _)]
  simpa using hv
/-- the text of bytes -/
def str (l : List UInt8) : ByteArray := ⟨l.toArray⟩
theorem strOfNums_of (l : List UInt8) : strOfNums (l.map fun c => (c.toNat : Int)) = str l := by
  unfold strOfNums str
  congr 1
  rw [List.map_map]
  congr 1
  conv => rhs; rw [← List.map_id l]
  refine List.map_congr_left fun c _ => ?_
  simp
theorem conv_str {P : Program} {w : World} {src dst e : TypeId} (hs : P.underlying src = some (.slice e)) (he : P.underlying e = some (.int .u8)) (hd : P.underlying dst = some .string) {A : Option Addr} {n c : Nat} {l : List UInt8} (h : Sl w 1 A n (B8 l)) :
    (convert src dst (.slice A n c)).run P w = .ok (.string (str l)) w := by
  have hl := h.len8
  rcases Nat.eq_zero_or_pos n with h0 | h0
  · subst h0
    obtain rfl : l = [] := List.eq_nil_of_length_eq_zero hl.symm
    rcases A with _ | ad
    · exact run_convert_bytes_nil w src e hs he 0 c dst hd
    · rw [run_convert_bytes_string w src dst e _ 0 c hs he hd, run_bytesToString w ad 0 c [] (by simp [loadCells, loadCellsFrom])]
      rfl
  · obtain ⟨b, o, rfl, hb, hc⟩ := h.at8 h0
    rw [run_convert_bytes_arg w src e hs he b o n c (l.map fun c => (c.toNat : Int)) (by simp [hl]) ?_ dst hd, strOfNums_of]
    intro i hi
    rw [hc i l[i] (List.getElem?_eq_getElem (by omega))]
    simp [List.getD, List.getElem?_eq_getElem (show i < l.length by omega)]
theorem str_inj {a b : List UInt8} : (str a).toList = (str b).toList ↔ a = b := by
  have e : ∀ l : List UInt8, (str l).toList = l := by
    intro l
    rw [ByteArray.toList_eq]
    rfl
  rw [e, e]
theorem Sl.but2 {w w' : World} {row : Option Nat} {size n : Nat} {A : Option Addr} {xs : List Value} (h : Sl w size A n xs) (hr : RBut row w w') (hne : ∀ b, A.map (·.block) = some b → some b ≠ row) : Sl w' size A n xs := by
  refine ⟨h.len, fun hn => ?_⟩
  obtain ⟨b, o, e, hb, hc⟩ := h.cells hn
  subst e
  exact (h.but hr (hne b rfl)).cells hn

theorem Sl.front {w : World} {A : Option Addr} {n k : Nat} {l : List UInt8} (h : Sl w 1 A n (B8 l)) (hk : k ≤ n) : Sl w 1 A k (B8 (l.take k)) := by
  refine ⟨by have := h.len8; simp [B8]; omega, fun h0 => ?_⟩
  obtain ⟨b, o, e, hb, hc⟩ := h.cells (by omega)
  refine ⟨b, o, e, hb, fun j u hu => hc j u ?_⟩
  rw [B8, List.map_take, List.getElem?_take] at hu
  split at hu
  · exact hu
  · cases hu
theorem Sl.back {w : World} {b o n k : Nat} {l : List UInt8} (h : Sl w 1 (some ⟨b, o, none⟩) n (B8 l)) (hk : k ≤ n) : Sl w 1 (some ⟨b, o + k, none⟩) (n - k) (B8 (l.drop k)) := by
  refine ⟨by have := h.len8; simp [B8]; omega, fun h0 => ?_⟩
  obtain ⟨b', o', e, hb, hc⟩ := h.cells (by omega)
  simp only [Option.some.injEq, Addr.mk.injEq, and_true] at e
  obtain ⟨rfl, rfl⟩ := e
  refine ⟨b, o + k, rfl, hb, fun j u hu => ?_⟩
  rw [B8, List.map_drop, List.getElem?_drop] at hu
  rw [Nat.add_assoc]
  exact hc (k + j) u hu

theorem Sl.bel2 {w w' : World} {B b o size n : Nat} {xs : List Value} (h : Sl w size (some ⟨b, o, none⟩) n xs) (hb : Below B w w') (hlt : b < B) : Sl w' size (some ⟨b, o, none⟩) n xs :=
  ⟨h.len, fun hn => by
    obtain ⟨b', o', e, h1, hc⟩ := h.cells hn
    simp only [Option.some.injEq, Addr.mk.injEq, and_true] at e
    obtain ⟨rfl, rfl⟩ := e
    exact ⟨b, o, rfl, Nat.lt_of_lt_of_le h1 hb.size, fun j u hu => (hb.cell (p := ⟨b, o + j, none⟩) hlt).trans (hc j u hu)⟩⟩
end Go.Proofs.Ytakebmpnbdlcoaa
