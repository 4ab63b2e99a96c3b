/- The texts of this claim, part B: words, plain laws, walks. -/
import Derived.Test.YtakebmpnbdlcoaaPartA
import Derived.Laws.StructEq
import Derived.Laws.Tables
import Derived.Deep.Cut
import Derived.Test.YtakebmpnbdlcoaaProg
import Derived.Maps.Range
import Derived.Maps.RangeWalk
import Derived.Maps.Views
import Derived.DeepKeys5
import Derived.IntWalk
import Derived.StillTailTactics
/- Structs that fill a block of their own: a field is read, a field is stored, a value is built; two are held against each other. -/
set_option linter.unusedSimpArgs false
set_option linter.unusedVariables false
namespace Go.Proofs.Ytakebmpnbdlcoaa
open Go.RowKit
set_option maxRecDepth 100000

section
variable {P : Program} {ops : Array Oper} {Q : Exit → Act → World → Prop} {R : World → World → Prop}
/-- what is taken first, behind which two operations can come up, in either order -/
def wpT (P : Program) (ops : Array Oper) (Q : Exit → Act → World → Prop) (R : World → World → Prop) (l1 l2 : List (Nat × Bool)) : List Nat → Act → World → Prop
  | [], a, w => wpC P ops Q R l1 a w ∧ wpC P ops Q R l2 a w
  | i :: rest, a, w => ∃ o v, ops[i]? = some o ∧ YieldsIf P ops (R w) o v a ∧ wpT P ops Q R l1 l2 rest (a.put o.dst v) w
def canonTwo (ops : Array Oper) (i j : Nat) (r1 r2 : List (Nat × Bool)) : List Nat → Array Bool → Bool
  | [], listed => Region.ready .any ops listed == [i, j] && canonOk ops r1 (listed.setIfInBounds i true) && canonOk ops r2 (listed.setIfInBounds j true)
  | k :: rest, listed => Region.free .any ops listed k && (Region.ready .any ops listed).contains k && canonTwo ops i j r1 r2 rest (listed.setIfInBounds k true)
theorem wpAnyH_of_T (hrefl : ∀ w, R w w) (htr : ∀ a b c, R a b → R b c → R a c) (hs : Region.noSelect ops = true) (hQ : ∀ (d : Option Tmp) (v : Value) c a w, Q (.panic c) (a.put d v) w → Q (.panic c) a w) (i j : Nat) (r1 r2 : List (Nat × Bool)) :
    ∀ (l : List Nat) (fuel : Nat) (listed : Array Bool) (a : Act) (w : World) (S : World → Prop), canonTwo ops i j r1 r2 l listed = true → l.length + 1 + r1.length ≤ fuel → l.length + 1 + r2.length ≤ fuel → (∀ w', R w w' → S w') → wpT P ops Q R ((i, false) :: r1) ((j, false) :: r2) l a w →
      wpAnyH P .any ops Q S fuel listed a w
  | [], fuel, listed, a, w, S, hok, hf1, hf2, hS, h => by
    obtain ⟨f, rfl⟩ : ∃ f, fuel = f + 1 := ⟨fuel - 1, by simp at hf1; omega⟩
    simp only [canonTwo, Bool.and_eq_true, beq_iff_eq] at hok
    obtain ⟨⟨hr, h1⟩, h2⟩ := hok
    refine wpAnyH_all hr (by simp) fun m hm => ?_
    rcases List.mem_cons.1 hm with rfl | hm
    · exact wpOp_mono (fun a' w' h' => ⟨hS w' h'.1, wpAnyH_of_C hrefl htr hs hQ r1 f _ a' w' S h1 (by simp at hf1; omega) (fun w'' h'' => hS w'' (htr _ _ _ h'.1 h'')) h'.2⟩) h.1
    · obtain rfl : m = j := by simpa using hm
      exact wpOp_mono (fun a' w' h' => ⟨hS w' h'.1, wpAnyH_of_C hrefl htr hs hQ r2 f _ a' w' S h2 (by simp at hf2; omega) (fun w'' h'' => hS w'' (htr _ _ _ h'.1 h'')) h'.2⟩) h.2
  | k :: rest, fuel, listed, a, w, S, hok, hf1, hf2, hS, h => by
    obtain ⟨f, rfl⟩ : ∃ f, fuel = f + 1 := ⟨fuel - 1, by simp at hf1; omega⟩
    simp only [canonTwo, Bool.and_eq_true] at hok
    obtain ⟨o, v, ho, hy, hr⟩ := h
    have ih := wpAnyH_of_T hrefl htr hs hQ i j r1 r2 rest f (listed.setIfInBounds k true) (a.put o.dst v) w (fun w' => S w' ∧ R w w') hok.2 (by simp at hf1; omega) (by simp at hf2; omega) (fun w' h' => ⟨hS w' h', h'⟩) hr
    refine wpAnyH_weaken (fun w' h' => h'.1) _ _ _ _ (wpAnyH_take (oi := o) (v := v) ho hs hok.1.1 hok.1.2 (fun c a w => hQ o.dst v c a w) ?_ ⟨hS w (hrefl w), hrefl w⟩ ih)
    rcases hy with ⟨h1, h2⟩ | h1
    · exact .inl ⟨h1, fun w' h' => h2 w' h'.2⟩
    · exact .inr h1
theorem wp_region_T {id : Nat} {a : Act} {w : World} (l : List Nat) (i j : Nat) (r1 r2 : List (Nat × Bool)) (R : World → World → Prop) (hm : P.follows .mixedOrders = true) (hs : Region.noSelect ops = true) (hok : canonTwo ops i j r1 r2 l (Array.replicate ops.size false) = true) (hl1 : l.length + 1 + r1.length ≤ ops.size) (hl2 : l.length + 1 + r2.length ≤ ops.size)
    (hrefl : ∀ w, R w w) (htr : ∀ a b c, R a b → R b c → R a c) (hQ : ∀ (d : Option Tmp) (v : Value) c a w, Q (.panic c) (a.put d v) w → Q (.panic c) a w)
    (h : wpT P ops Q R ((i, false) :: r1) ((j, false) :: r2) l a w.drew) : (Code.region id ops true).wp P Q a w :=
  wp_region_held (S := fun _ => True) hm (wpAnyH_of_T hrefl htr hs hQ i j r1 r2 l _ _ _ _ _ hok hl1 hl2 (fun _ _ => trivial) h)
theorem wpT_quiet {l1 l2 : List (Nat × Bool)} {i : Nat} {rest : List Nat} {o : Oper} {v : Value} {a : Act} {w : World} (ho : nth ops.toList i = some o) (hw : Region.wanted o (yielded ops a.tmps) = true)
    (hy : ∀ w', R w w' → (execOp a.eval o).run P w' = .ok (.value v) w') (h : wpT P ops Q R l1 l2 rest (a.put o.dst v) w) : wpT P ops Q R l1 l2 (i :: rest) a w := ⟨o, v, nth_ops ho, .inl ⟨hw, hy⟩, h⟩
theorem wpT_skip {l1 l2 : List (Nat × Bool)} {i : Nat} {rest : List Nat} {o : Oper} {a : Act} {w : World} (ho : nth ops.toList i = some o) (hw : Region.wanted o (yielded ops a.tmps) = false)
    (h : wpT P ops Q R l1 l2 rest (a.put o.dst undef) w) : wpT P ops Q R l1 l2 (i :: rest) a w := ⟨o, undef, nth_ops ho, .inr ⟨hw, rfl⟩, h⟩
theorem wpT_load {l1 l2 : List (Nat × Bool)} {i : Nat} {rest : List Nat} {o : Oper} {a : Act} {w : World} (ho : nth ops.toList i = some o) (hw : Region.wanted o (yielded ops a.tmps) = true) (ty : TypeId) (x : Operand) (hop : o.op = .load ty x)
    (b off : Nat) (hx : a.eval x = .pointer (some ⟨b, off, none⟩)) (cs : List Value) (d : TypeDesc) (hS : ∀ w', R w w' → w'.rangeAt b off cs) (hu : P.underlying ty = some d) (hd : d.isRow = true) (hi : (P.info? ty).map (·.size) = some cs.length)
    (h : wpT P ops Q R l1 l2 rest (a.put o.dst (.agg cs.toArray)) w) : wpT P ops Q R l1 l2 (i :: rest) a w :=
  ⟨o, _, nth_ops ho, yieldsIf_load_mid hw ty x hop b off hx cs d hS hu hd hi, h⟩
theorem wpT_nil {l1 l2 : List (Nat × Bool)} {a : Act} {w : World} (h1 : wpC P ops Q R l1 a w) (h2 : wpC P ops Q R l2 a w) : wpT P ops Q R l1 l2 [] a w := ⟨h1, h2⟩
end
/-- some cells from place o on are others -/
def put_ (cs : List Value) (o : Nat) (new : List Value) : List Value := cs.take o ++ new ++ cs.drop (o + new.length)
theorem put_mid (a b c new : List Value) (h : new.length = b.length) : put_ (a ++ b ++ c) a.length new = a ++ new ++ c := by
  unfold put_
  rw [h, show a ++ b ++ c = a ++ (b ++ c) from List.append_assoc _ _ _, List.take_left' rfl, ← List.append_assoc, List.drop_left' (by simp)]
theorem put_len (cs new : List Value) (o : Nat) (h : o + new.length ≤ cs.length) : (put_ cs o new).length = cs.length := by
  unfold put_
  simp
  omega
theorem put_one (cs : List Value) (o : Nat) (v : Value) (h : o < cs.length) : put_ cs o [v] = cs.set o v := by
  unfold put_
  rw [List.set_eq_take_append_cons_drop, if_pos h]
  simp
theorem put_all (cs new : List Value) (h : new.length = cs.length) : put_ cs 0 new = new := by
  unfold put_
  simp [h]

section
variable {w w' : World} {b : Nat} {t : TypeId} {cs : List Value}
/-- some of a block's cells, as they lie -/
theorem Blk.sub (h : Blk w b t cs) (o : Nat) (new : List Value) (hs : (cs.drop o).take new.length = new) : w.rangeAt b o new := fun j v hv => by
  have hj := (List.getElem?_eq_some_iff.1 hv).1
  rw [← hs, List.getElem?_take, if_pos hj, List.getElem?_drop] at hv
  rw [h.cell, hv]
theorem setCells_blk_at (a new old c : List Value) (w : World) (h : Blk w b t (a ++ old ++ c)) (hl : old.length = new.length) : Blk (w.setCells b a.length new) b t (a ++ new ++ c) := by
  induction new generalizing a w old with
  | nil =>
    obtain rfl : old = [] := List.eq_nil_of_length_eq_zero hl
    exact h
  | cons v vs ih =>
    rcases old with _ | ⟨o, old⟩
    · simp at hl
    · have h1 := h.set_ a.length v
      have e1 : (a ++ o :: old ++ c).set a.length v = (a ++ [v]) ++ old ++ c := by simp
      rw [e1] at h1
      have := ih (a ++ [v]) old _ h1 (by simpa using hl)
      simp only [List.append_assoc, List.cons_append, List.nil_append, List.length_append, List.length_cons, List.length_nil, Nat.zero_add] at this ⊢
      exact this
theorem setCells_put (h : Blk w b t cs) (o : Nat) (new : List Value) (hl : o + new.length ≤ cs.length) : Blk (w.setCells b o new) b t (put_ cs o new) := by
  have e1 : cs = cs.take o ++ (cs.drop o).take new.length ++ cs.drop (o + new.length) := by
    have e2 : cs.drop (o + new.length) = (cs.drop o).drop new.length := by rw [List.drop_drop]
    rw [e2, List.append_assoc, List.take_append_drop, List.take_append_drop]
  have hlen : (cs.take o).length = o := by rw [List.length_take]; omega
  rw [e1] at h
  have := setCells_blk_at (cs.take o) new ((cs.drop o).take new.length) (cs.drop (o + new.length)) w h (by simp; omega)
  rw [hlen] at this
  exact this
theorem Blk.there_at (h : Blk w b t cs) (o n : Nat) (hl : o + n ≤ cs.length) : w.there b o n := fun j hj => ⟨by rw [h.cell, List.getElem?_eq_getElem (by omega)]; rfl, h.fz _⟩
end

section
variable {P : Program}
theorem run_storeVar_val (w : World) (b o : Nat) (ty : TypeId) (v : Value) (new : List Value) (hv : v.cells = new.toArray) (ht : w.there b o new.length) (hi : (P.info? ty).map (·.size) = some new.length) (h1 : ∀ u ∈ new, u.oneCell' = true) :
    (storeVar ty ⟨b, o, none⟩ v).run P w = .ok () (w.setCells b o new) := by
  have h2 := run_storeVar_mid (P := P) w b o ty new.toArray (by simpa using ht) (by simpa using hi) (all_oneCell_toArray h1)
  have e : storeVar ty ⟨b, o, none⟩ v = storeVar ty ⟨b, o, none⟩ (.agg new.toArray) := by
    unfold storeVar
    rw [hv]
    rfl
  rw [e]
  exact h2
/-- a value is stored into a field (or the whole) of a block known whole -/
theorem wp_store_fld {op : Oper} {a : Act} {w : World} {K : Act → World → Prop} {Q : Exit → Act → World → Prop} (ty : TypeId) (x y : Operand) (ho : op.op = .store ty x y)
    (b o : Nat) (t : TypeId) (cs new : List Value) (hx : a.eval x = .pointer (some ⟨b, o, none⟩)) (v : Value) (hy : a.eval y = v) (hv : v.cells = new.toArray) (hb : Blk w b t cs) (hl : o + new.length ≤ cs.length)
    (hi : (P.info? ty).map (·.size) = some new.length) (h1 : ∀ u ∈ new, u.oneCell' = true)
    (h : ∀ w', Blk w' b t (put_ cs o new) → RBut (some b) w w' → K (a.put op.dst undef) w') : op.wp P a w K Q := by
  subst hy
  unfold Oper.wp execOp
  simp only [ho, hx, Instr.storeAt, Instr.sureAddr, Sem.run_bind, Sem.run_pure, Result.andThen_ok, run_storeVar_val w b o ty (a.eval y) new hv (hb.there_at o _ hl) hi h1]
  exact h _ (setCells_put hb o new hl) (setCells_but new o w)
theorem wpl_store_fld {ops : Array Oper} {rest : List Oper} {op : Oper} {a : Act} {w : World} {Q : Exit → Act → World → Prop} (hw : Region.wanted op (yielded ops a.tmps) = true) (ty : TypeId) (x y : Operand) (ho : op.op = .store ty x y)
    (b o : Nat) (t : TypeId) (cs new : List Value) (hx : a.eval x = .pointer (some ⟨b, o, none⟩)) (v : Value) (hy : a.eval y = v) (hv : v.cells = new.toArray) (hb : Blk w b t cs) (hl : o + new.length ≤ cs.length)
    (hi : (P.info? ty).map (·.size) = some new.length) (h1 : ∀ u ∈ new, u.oneCell' = true)
    (h : ∀ w', Blk w' b t (put_ cs o new) → RBut (some b) w w' → wpList P ops Q rest (a.put op.dst undef) w') : wpList P ops Q (op :: rest) a w :=
  wpList_wanted hw (wp_store_fld ty x y ho b o t cs new hx v hy hv hb hl hi h1 h)
/-- a field of several cells is read -/
theorem wpl_load_fld {ops : Array Oper} {rest : List Oper} {op : Oper} {a : Act} {w : World} {Q : Exit → Act → World → Prop} (hw : Region.wanted op (yielded ops a.tmps) = true) (ty : TypeId) (x : Operand) (ho : op.op = .load ty x)
    (b o : Nat) (hx : a.eval x = .pointer (some ⟨b, o, none⟩)) (cs : List Value) (d : TypeDesc) (hc : w.rangeAt b o cs)
    (hu : P.underlying ty = some d) (hd : d.isRow = true) (hi : (P.info? ty).map (·.size) = some cs.length)
    (h : wpList P ops Q rest (a.put op.dst (.agg cs.toArray)) w) : wpList P ops Q (op :: rest) a w :=
  wpList_wanted hw (wp_load_mid ty x ho b o hx cs d hc hu hd hi h)
/-- a value is built of parts -/
theorem wpl_build {ops : Array Oper} {rest : List Oper} {o : Oper} {a : Act} {w : World} {Q : Exit → Act → World → Prop} (hw : Region.wanted o (yielded ops a.tmps) = true) (t : TypeId) (parts : Array (Nat × Operand)) (ho : o.op = .build t parts)
    (cells : Array Value) (hf : P.built t (parts.toList.map fun x => (x.1, a.eval x.2)) = some cells)
    (h : wpList P ops Q rest (a.put o.dst (.agg cells)) w) : wpList P ops Q (o :: rest) a w := by
  refine wpList_wanted hw ?_
  unfold Oper.wp execOp
  simp only [ho, run_build w t _ cells (by rw [Array.toList_map]; exact hf), Sem.run_bind, Result.andThen_ok, Sem.run_pure]
  exact h
/-- what a built value's parts do to the zero value -/
theorem fill_nil (place : Nat → Option (Nat × Nat)) (cs : Array Value) : Instr.fill place cs [] = some cs := rfl
theorem zip_put (cs new : List Value) (o : Nat) (h : o + new.length ≤ cs.length) : (new.toArray.zipIdx.foldl (fun (cs : Array Value) (x : Value × Nat) => cs.setIfInBounds (o + x.2) x.1) cs.toArray) = (put_ cs o new).toArray := by
  have key : ∀ (new : List Value) (k o : Nat) (cs : List Value), o + k + new.length ≤ cs.length → ((new.zipIdx k).foldl (fun (cs : Array Value) (x : Value × Nat) => cs.setIfInBounds (o + x.2) x.1) cs.toArray) = (put_ cs (o + k) new).toArray := by
    intro new
    induction new with
    | nil => intro k o cs h; simp [put_]
    | cons v vs ih =>
      intro k o cs h
      simp only [List.zipIdx_cons, List.foldl_cons, List.setIfInBounds_toArray]
      rw [ih (k + 1) o (cs.set (o + k) v) (by simp at h ⊢; omega)]
      congr 1
      have hk : o + k < cs.length := by simp at h; omega
      unfold put_
      rw [List.take_set, List.drop_set, if_pos (by omega)]
      rw [show o + (k + 1) = o + k + 1 from by omega, List.take_add_one, List.getElem?_eq_getElem hk]
      have e2 : (List.take (o + k) cs).length = o + k := by rw [List.length_take]; omega
      rw [List.set_append_right _ _ (by rw [e2]; exact Nat.le_refl _), e2]
      simp only [Nat.sub_self, Option.toList_some, List.set_cons_zero, List.append_assoc, List.cons_append, List.nil_append, List.length_cons]
      rw [show o + k + 1 + vs.length = o + k + (vs.length + 1) from by omega]
  have e := key new 0 o cs (by simpa using h)
  simp only [Nat.add_zero] at e
  rw [← e]
  rw [← Array.foldl_toList, Array.toList_zipIdx]
theorem fill_cons (place : Nat → Option (Nat × Nat)) (cs new : List Value) (i o : Nat) (v : Value) (rest : List (Nat × Value)) (hp : place i = some (o, new.length)) (hv : v.cells = new.toArray) (hl : o + new.length ≤ cs.length) :
    Instr.fill place cs.toArray ((i, v) :: rest) = Instr.fill place (put_ cs o new).toArray rest := by
  conv => lhs; unfold Instr.fill
  rw [hp, hv]
  dsimp only
  rw [if_neg (by simp; omega)]
  congr 1
  exact zip_put cs new o hl
theorem built_struct {t : TypeId} {fs : Array Field} {z : Value} {places : List (Nat × Nat)} (hz : (P.info? t).bind (·.zero) = some z) (hu : P.underlying t = some (.struct fs)) (hp : fs.toList.mapM (fun f => (P.info? f.type).map fun i => (f.offset, i.size)) = some places) (parts : List (Nat × Value)) :
    P.built t parts = Instr.fill (places.toArray[·]?) z.cells parts := by
  unfold Program.built
  cases hi : P.info? t with
  | none => rw [hi] at hz; cases hz
  | some it =>
    rw [hi] at hz
    simp only [Option.bind_some] at hz
    simp only [hu, hz, hp]
/-- a value is built in a drawn region, where nothing else can come up -/
theorem wpC_build {ops : Array Oper} {Q : Exit → Act → World → Prop} {R : World → World → Prop} {i : Nat} {rest : List (Nat × Bool)} {o : Oper} {a : Act} {w : World} (hrefl : ∀ w, R w w) (ho : nth ops.toList i = some o) (hw : Region.wanted o (yielded ops a.tmps) = true) (t : TypeId) (parts : Array (Nat × Operand)) (hop : o.op = .build t parts)
    (cells : Array Value) (hf : P.built t (parts.toList.map fun x => (x.1, a.eval x.2)) = some cells) (h : wpC P ops Q R rest (a.put o.dst (.agg cells)) w) : wpC P ops Q R ((i, false) :: rest) a w := by
  refine wpC_val (v := .agg cells) hrefl ho hw ?_ h
  unfold execOp
  simp only [hop, run_build w t _ cells (by rw [Array.toList_map]; exact hf), Sem.run_bind, Result.andThen_ok, Sem.run_pure]
/-- a value is built in a drawn region, as soon as it may be -/
theorem wpC_build_t {ops : Array Oper} {Q : Exit → Act → World → Prop} {R : World → World → Prop} {i : Nat} {rest : List (Nat × Bool)} {o : Oper} {a : Act} {w : World} (ho : nth ops.toList i = some o) (hw : Region.wanted o (yielded ops a.tmps) = true) (t : TypeId) (parts : Array (Nat × Operand)) (hop : o.op = .build t parts)
    (cells : Array Value) (hf : P.built t (parts.toList.map fun x => (x.1, a.eval x.2)) = some cells) (h : wpC P ops Q R rest (a.put o.dst (.agg cells)) w) : wpC P ops Q R ((i, true) :: rest) a w := by
  refine wpC_quiet (v := .agg cells) ho hw (fun w' _ => ?_) h
  unfold execOp
  simp only [hop, run_build w' t _ cells (by rw [Array.toList_map]; exact hf), Sem.run_bind, Result.andThen_ok, Sem.run_pure]
/-- a field (or the whole) is stored in a drawn region -/
theorem wpC_store_fld {ops : Array Oper} {Q : Exit → Act → World → Prop} {R : World → World → Prop} {i : Nat} {rest : List (Nat × Bool)} {op : Oper} {a : Act} {w : World} (hn : nth ops.toList i = some op) (hw : Region.wanted op (yielded ops a.tmps) = true) (ty : TypeId) (x y : Operand) (ho : op.op = .store ty x y)
    (b o : Nat) (t : TypeId) (cs new : List Value) (hx : a.eval x = .pointer (some ⟨b, o, none⟩)) (v : Value) (hy : a.eval y = v) (hv : v.cells = new.toArray) (hb : Blk w b t cs) (hl : o + new.length ≤ cs.length)
    (hi : (P.info? ty).map (·.size) = some new.length) (h1 : ∀ u ∈ new, u.oneCell' = true) (hR : ∀ w', RBut (some b) w w' → R w w')
    (h : ∀ w', Blk w' b t (put_ cs o new) → RBut (some b) w w' → wpC P ops Q R rest (a.put op.dst undef) w') : wpC P ops Q R ((i, false) :: rest) a w := by
  unfold wpC wpOp
  simp only [nth_ops hn, hw, if_true]
  refine .inl ?_
  exact wp_store_fld ty x y ho b o t cs new hx v hy hv hb hl hi h1 fun w' h2 h3 => ⟨hR w' h3, h w' h2 h3⟩
theorem results_blk2 {fn : Func} {p q : Tmp} {ty : TypeId} (hr : fn.results = #[.cell p ty, .tmp q]) {tmps : Array Value} {w : World} {b : Nat} {t : TypeId} {cs : List Value} {d : TypeDesc} {v : Value} (hp : tmps.getD p undef = .pointer (some ⟨b, 0, none⟩)) (hv : tmps.getD q undef = v) (hc : Blk w b t cs)
    (hu : P.underlying ty = some d) (hd : d.isRow = true) (hi : (P.info? ty).map (·.size) = some cs.length) : (results fn tmps).run P w = .ok (.tuple #[.agg cs.toArray, v]) w := by
  have hp' : tmps[p]?.getD undef = .pointer (some ⟨b, 0, none⟩) := by simpa using hp
  have hv' : tmps[q]?.getD undef = v := by simpa using hv
  simp only [results, hr]
  simp [Sem.run_bind, hp', hv', asAddr, run_loadVar_mid w b 0 ty cs d hc.range hu hd hi]
end
end Go.Proofs.Ytakebmpnbdlcoaa
/- Sums held against each other. -/
set_option linter.unusedSimpArgs false
set_option linter.unusedVariables false
namespace Go.Proofs.Ytakebmpnbdlcoaa
open Go.RowKit
set_option maxRecDepth 100000
def zero32 : List UInt8 := List.replicate 32 0
theorem zero32_one : ∀ u ∈ B8 zero32, u.oneCell' = true := B8_one _
theorem info_hash {l : List UInt8} (h : l.length = 32) : (Try.prog.info? 27).map (·.size) = some (B8 l).length := by rw [B8_len, h]; kernel_rfl
theorem info_u8' : ∃ i, Try.prog.info? 5 = some i := by
  obtain ⟨i, h, _⟩ := info_parts (P := Try.prog) (e := 5) (z := .int .u8 0) (size := 1) (bytes := 1) (by kernel_rfl)
  exact ⟨i, h⟩
theorem eq_hash (a b : List UInt8) (ha : a.length = 32) (hb : b.length = 32) (w : World) : (Op.equalIn 10000 27 (.agg (B8 a).toArray) (.agg (B8 b).toArray)).run Try.prog w = .ok (decide (a = b)) w := by
  obtain ⟨i, hi⟩ := info_u8'
  exact eq_bytes Try.underlying27 Try.underlying5 hi (by kernel_rfl) 9998 a b ha hb w
theorem eq_zero (a : List UInt8) (ha : a.length = 32) (w : World) : (Op.equalIn 10000 27 (.agg (B8 a).toArray) (.agg #[.int .u8 0, .int .u8 0, .int .u8 0, .int .u8 0, .int .u8 0, .int .u8 0, .int .u8 0, .int .u8 0, .int .u8 0, .int .u8 0, .int .u8 0, .int .u8 0, .int .u8 0, .int .u8 0, .int .u8 0, .int .u8 0, .int .u8 0, .int .u8 0, .int .u8 0, .int .u8 0, .int .u8 0, .int .u8 0, .int .u8 0, .int .u8 0, .int .u8 0, .int .u8 0, .int .u8 0, .int .u8 0, .int .u8 0, .int .u8 0, .int .u8 0, .int .u8 0])).run Try.prog w = .ok (decide (a = zero32)) w := eq_hash a zero32 ha rfl w
end Go.Proofs.Ytakebmpnbdlcoaa
/- A dispute's game as cells: its fields are read, and stored. -/
set_option linter.unusedSimpArgs false
set_option linter.unusedVariables false
namespace Go.Proofs.Ytakebmpnbdlcoaa
open Go.RowKit
set_option maxRecDepth 100000

/-- What a game is, but for its transactions. -/
structure GD where
  lo : Int
  hi : Int
  rlo : List UInt8
  rhi : List UInt8
  mid : List UInt8
  turn : Int
  moves : Int
  limit : Int
  won : Bool
  cl : Int
  ref : Int
  deriving DecidableEq
structure GLen (d : GD) : Prop where
  rlo : d.rlo.length = 32
  rhi : d.rhi.length = 32
  mid : d.mid.length = 32
def gtail (d : GD) : List Value := [.int .i64 d.turn, .int .i64 d.moves, .int .i64 d.limit, .bool d.won, .int .i64 d.cl, .int .i64 d.ref]
def gcells (v : Value) (d : GD) : List Value := [v, .int .i64 d.lo, .int .i64 d.hi] ++ (B8 d.rlo ++ (B8 d.rhi ++ (B8 d.mid ++ gtail d)))
def gval (v : Value) (d : GD) : Value := .agg (gcells v d).toArray
/-- sums, one behind the other -/
def H8 (hs : List (List UInt8)) : List Value := hs.flatMap B8
theorem gcells_len {v : Value} {d : GD} (h : GLen d) : (gcells v d).length = 105 := by
  simp [gcells, gtail, B8_len, h.rlo, h.rhi, h.mid]
theorem gcells_one {v : Value} {d : GD} (hv : v.oneCell' = true) : ∀ u ∈ gcells v d, u.oneCell' = true := by
  intro u hu
  simp only [gcells, gtail, List.mem_append, List.mem_cons, List.not_mem_nil, or_false] at hu
  rcases hu with (rfl | rfl | rfl) | hu | hu | hu | (rfl | rfl | rfl | rfl | rfl | rfl)
  all_goals first | exact hv | exact B8_one _ _ hu | rfl
section
variable {v : Value} {d : GD}
theorem g_tail (h : GLen d) (k : Nat) : (gcells v d)[99 + k]? = (gtail d)[k]? := by
  unfold gcells
  rw [List.getElem?_append_right (by simp; omega), List.getElem?_append_right (by rw [B8_len, h.rlo]; simp; omega), List.getElem?_append_right (by rw [B8_len, B8_len, h.rlo, h.rhi]; simp; omega),
    List.getElem?_append_right (by rw [B8_len, B8_len, B8_len, h.rlo, h.rhi, h.mid]; simp; omega)]
  congr 1
  rw [B8_len, B8_len, B8_len, h.rlo, h.rhi, h.mid]
  simp
  omega
theorem g_rlo (h : GLen d) : ((gcells v d).drop 3).take (B8 d.rlo).length = B8 d.rlo := by simp [gcells]
theorem g_rhi (h : GLen d) : ((gcells v d).drop 35).take (B8 d.rhi).length = B8 d.rhi := by
  have : (gcells v d).drop 35 = B8 d.rhi ++ (B8 d.mid ++ gtail d) := by
    unfold gcells
    rw [← List.append_assoc]
    exact List.drop_left' (by simp [B8_len, h.rlo])
  rw [this, List.take_left' rfl]
theorem g_mid (h : GLen d) : ((gcells v d).drop 67).take (B8 d.mid).length = B8 d.mid := by
  have : (gcells v d).drop 67 = B8 d.mid ++ gtail d := by
    unfold gcells
    rw [← List.append_assoc, ← List.append_assoc]
    exact List.drop_left' (by simp [B8_len, h.rlo, h.rhi])
  rw [this, List.take_left' rfl]
theorem p_txs (u : Value) : put_ (gcells v d) 0 [u] = gcells u d := by simp [put_, gcells]
theorem p_lo (x : Int) : put_ (gcells v d) 1 [.int .i64 x] = gcells v { d with lo := x } := by simp [put_, gcells, gtail]
theorem p_hi (x : Int) : put_ (gcells v d) 2 [.int .i64 x] = gcells v { d with hi := x } := by simp [put_, gcells, gtail]
theorem p_rlo (h : GLen d) (x : List UInt8) (hx : x.length = 32) : put_ (gcells v d) 3 (B8 x) = gcells v { d with rlo := x } := by
  have := put_mid [v, .int .i64 d.lo, .int .i64 d.hi] (B8 d.rlo) (B8 d.rhi ++ (B8 d.mid ++ gtail d)) (B8 x) (by simp [B8_len, h.rlo, hx])
  simpa [gcells, gtail] using this
theorem p_rhi (h : GLen d) (x : List UInt8) (hx : x.length = 32) : put_ (gcells v d) 35 (B8 x) = gcells v { d with rhi := x } := by
  have := put_mid ([v, .int .i64 d.lo, .int .i64 d.hi] ++ B8 d.rlo) (B8 d.rhi) (B8 d.mid ++ gtail d) (B8 x) (by simp [B8_len, h.rhi, hx])
  rw [show ([v, Value.int .i64 d.lo, .int .i64 d.hi] ++ B8 d.rlo).length = 35 from by simp [B8_len, h.rlo]] at this
  simpa [gcells, gtail] using this
theorem p_mid (h : GLen d) (x : List UInt8) (hx : x.length = 32) : put_ (gcells v d) 67 (B8 x) = gcells v { d with mid := x } := by
  have := put_mid ([v, .int .i64 d.lo, .int .i64 d.hi] ++ B8 d.rlo ++ B8 d.rhi) (B8 d.mid) (gtail d) (B8 x) (by simp [B8_len, h.mid, hx])
  rw [show ([v, Value.int .i64 d.lo, .int .i64 d.hi] ++ B8 d.rlo ++ B8 d.rhi).length = 67 from by simp [B8_len, h.rlo, h.rhi]] at this
  simpa [gcells, gtail] using this
theorem p_tail (h : GLen d) (k : Nat) (u : Value) (hk : k < 6) (d' : GD) (h1 : d'.lo = d.lo) (h2 : d'.hi = d.hi) (h3 : d'.rlo = d.rlo) (h4 : d'.rhi = d.rhi) (h5 : d'.mid = d.mid) (ht : (gtail d).set k u = gtail d') :
    put_ (gcells v d) (99 + k) [u] = gcells v d' := by
  rw [put_one _ _ _ (by rw [gcells_len h]; omega)]
  unfold gcells
  rw [h1, h2, h3, h4, h5, ← ht]
  rw [List.set_append_right _ _ (by simp; omega), List.set_append_right _ _ (by rw [B8_len, h.rlo]; simp; omega), List.set_append_right _ _ (by rw [B8_len, B8_len, h.rlo, h.rhi]; simp; omega),
    List.set_append_right _ _ (by rw [B8_len, B8_len, B8_len, h.rlo, h.rhi, h.mid]; simp; omega)]
  rw [B8_len, B8_len, B8_len, h.rlo, h.rhi, h.mid]
  simp only [List.length_cons, List.length_nil]
  rw [show 99 + k - (0 + 1 + 1 + 1) - 32 - 32 - 32 = k from by omega]
theorem p_turn (h : GLen d) (x : Int) : put_ (gcells v d) 99 [.int .i64 x] = gcells v { d with turn := x } := p_tail h 0 _ (by omega) _ rfl rfl rfl rfl rfl rfl
theorem p_moves (h : GLen d) (x : Int) : put_ (gcells v d) 100 [.int .i64 x] = gcells v { d with moves := x } := p_tail h 1 _ (by omega) _ rfl rfl rfl rfl rfl rfl
theorem p_limit (h : GLen d) (x : Int) : put_ (gcells v d) 101 [.int .i64 x] = gcells v { d with limit := x } := p_tail h 2 _ (by omega) _ rfl rfl rfl rfl rfl rfl
theorem p_won (h : GLen d) (x : Bool) : put_ (gcells v d) 102 [.bool x] = gcells v { d with won := x } := p_tail h 3 _ (by omega) _ rfl rfl rfl rfl rfl rfl
theorem p_cl (h : GLen d) (x : Int) : put_ (gcells v d) 103 [.int .i64 x] = gcells v { d with cl := x } := p_tail h 4 _ (by omega) _ rfl rfl rfl rfl rfl rfl
theorem p_ref (h : GLen d) (x : Int) : put_ (gcells v d) 104 [.int .i64 x] = gcells v { d with ref := x } := p_tail h 5 _ (by omega) _ rfl rfl rfl rfl rfl rfl
end
/-- A block that holds a game. -/
structure GB (t : TypeId) (w : World) (b : Nat) (v : Value) (d : GD) : Prop where
  blk : Blk w b t (gcells v d)
  len : GLen d
section
variable {t : TypeId} {w w' : World} {b : Nat} {v : Value} {d : GD}
theorem GB.c0 (h : GB t w b v d) : w.cell? ⟨b, 0, none⟩ = some v := by rw [h.blk.cell]; rfl
theorem GB.c1 (h : GB t w b v d) : w.cell? ⟨b, 1, none⟩ = some (.int .i64 d.lo) := by rw [h.blk.cell]; rfl
theorem GB.c2 (h : GB t w b v d) : w.cell? ⟨b, 2, none⟩ = some (.int .i64 d.hi) := by rw [h.blk.cell]; rfl
theorem GB.c99 (h : GB t w b v d) : w.cell? ⟨b, 99, none⟩ = some (.int .i64 d.turn) := by rw [h.blk.cell, g_tail h.len 0]; rfl
theorem GB.c100 (h : GB t w b v d) : w.cell? ⟨b, 100, none⟩ = some (.int .i64 d.moves) := by rw [h.blk.cell, g_tail h.len 1]; rfl
theorem GB.c101 (h : GB t w b v d) : w.cell? ⟨b, 101, none⟩ = some (.int .i64 d.limit) := by rw [h.blk.cell, g_tail h.len 2]; rfl
theorem GB.c102 (h : GB t w b v d) : w.cell? ⟨b, 102, none⟩ = some (.bool d.won) := by rw [h.blk.cell, g_tail h.len 3]; rfl
theorem GB.c103 (h : GB t w b v d) : w.cell? ⟨b, 103, none⟩ = some (.int .i64 d.cl) := by rw [h.blk.cell, g_tail h.len 4]; rfl
theorem GB.c104 (h : GB t w b v d) : w.cell? ⟨b, 104, none⟩ = some (.int .i64 d.ref) := by rw [h.blk.cell, g_tail h.len 5]; rfl
theorem GB.r3 (h : GB t w b v d) : w.rangeAt b 3 (B8 d.rlo) := h.blk.sub 3 _ (g_rlo h.len)
theorem GB.r35 (h : GB t w b v d) : w.rangeAt b 35 (B8 d.rhi) := h.blk.sub 35 _ (g_rhi h.len)
theorem GB.r67 (h : GB t w b v d) : w.rangeAt b 67 (B8 d.mid) := h.blk.sub 67 _ (g_mid h.len)
theorem GB.to (h : GB t w b v d) (hb : Below w.heap.size w w') : GB t w' b v d := ⟨h.blk.to hb, h.len⟩
theorem GB.but {row : Option Nat} (h : GB t w b v d) (hb : RBut row w w') (hne : some b ≠ row) : GB t w' b v d := ⟨h.blk.but hb hne, h.len⟩
theorem GB.lt (h : GB t w b v d) : b < w.heap.size := h.blk.lt
theorem GB.bel {B : Nat} (h : GB t w b v d) (hb : Below B w w') (hB : b < B) : GB t w' b v d := ⟨h.blk.below hb hB, h.len⟩
end
section
variable {P : Program} {ops : Array Oper} {rest : List Oper} {op : Oper} {a : Act} {Q : Exit → Act → World → Prop} {t : TypeId} {w : World} {b : Nat} {v : Value} {d : GD}
/-- a field of a game is stored -/
theorem wpl_gstore (gb : GB t w b v d) (o : Nat) {v' : Value} {d' : GD} {new : List Value} (hp : put_ (gcells v d) o new = gcells v' d') (hd' : GLen d') (hw : Region.wanted op (yielded ops a.tmps) = true) (ty : TypeId) (x y : Operand) (ho : op.op = .store ty x y)
    (hx : a.eval x = .pointer (some ⟨b, o, none⟩)) (v0 : Value) (hy : a.eval y = v0) (hv : v0.cells = new.toArray) (hl : o + new.length ≤ 105)
    (hi : (P.info? ty).map (·.size) = some new.length) (h1 : ∀ u ∈ new, u.oneCell' = true)
    (h : ∀ w', GB t w' b v' d' → RBut (some b) w w' → wpList P ops Q rest (a.put op.dst undef) w') : wpList P ops Q (op :: rest) a w :=
  wpl_store_fld hw ty x y ho b o t _ new hx v0 hy hv gb.blk (by rw [gcells_len gb.len]; exact hl) hi h1 fun w' h2 h3 => h w' ⟨by rw [← hp]; exact h2, hd'⟩ h3
/-- a field of one cell is stored -/
theorem wpl_gset (gb : GB t w b v d) (o : Nat) {v' v0 : Value} {d' : GD} (hp : put_ (gcells v d) o [v0] = gcells v' d') (hd' : GLen d') (hl : o < 105) (hw : Region.wanted op (yielded ops a.tmps) = true) (ty : TypeId) (x y : Operand) (ho : op.op = .store ty x y)
    (hx : a.eval x = .pointer (some ⟨b, o, none⟩)) (hy : a.eval y = v0) (hv : v0.cells = #[v0]) (hi : (P.info? ty).map (·.size) = some 1) (h1 : v0.oneCell' = true)
    (h : ∀ w', GB t w' b v' d' → RBut (some b) w w' → wpList P ops Q rest (a.put op.dst undef) w') : wpList P ops Q (op :: rest) a w :=
  wpl_gstore gb o hp hd' hw ty x y ho hx v0 hy hv (by simp; omega) hi (by intro u hu; simp at hu; subst hu; exact h1) h
/-- a whole game is read -/
theorem wpl_gload (gb : GB t w b v d) (hw : Region.wanted op (yielded ops a.tmps) = true) (ty : TypeId) (x : Operand) (ho : op.op = .load ty x) (hx : a.eval x = .pointer (some ⟨b, 0, none⟩)) (ds : TypeDesc)
    (hu : P.underlying ty = some ds) (hd : ds.isRow = true) (hi : (P.info? ty).map (·.size) = some 105)
    (h : wpList P ops Q rest (a.put op.dst (gval v d)) w) : wpList P ops Q (op :: rest) a w :=
  wpl_load_fld hw ty x ho b 0 hx (gcells v d) ds gb.blk.range hu hd (by rw [hi, gcells_len gb.len]) h
/-- a whole game is stored -/
theorem wpl_gput {cs : List Value} (hb : Blk w b t cs) (hl : cs.length = 105) (hd : GLen d) (h1 : v.oneCell' = true) (hw : Region.wanted op (yielded ops a.tmps) = true) (ty : TypeId) (x y : Operand) (ho : op.op = .store ty x y)
    (hx : a.eval x = .pointer (some ⟨b, 0, none⟩)) (hy : a.eval y = gval v d) (hi : (P.info? ty).map (·.size) = some 105)
    (h : ∀ w', GB t w' b v d → RBut (some b) w w' → wpList P ops Q rest (a.put op.dst undef) w') : wpList P ops Q (op :: rest) a w :=
  wpl_store_fld hw ty x y ho b 0 t cs (gcells v d) hx _ hy rfl hb (by rw [gcells_len hd]; omega) (by rw [hi, gcells_len hd]) (gcells_one h1) fun w' h2 h3 => h w' ⟨by rw [put_all _ _ (by rw [gcells_len hd, hl])] at h2; exact h2, hd⟩ h3
end
end Go.Proofs.Ytakebmpnbdlcoaa
/- Arguments: slices of sums. -/
set_option linter.unusedSimpArgs false
set_option linter.unusedVariables false
namespace Go.Proofs.Ytakebmpnbdlcoaa
open Go.ChangeShapes Go.WideShapes Go.ChangeAt Go.RowKit
section
variable {H : Type} {enc : TypeId × Value → H} {P : Program} {W : World}
theorem hash_of {t e : TypeId} {m : Nat} {cs : List Value} {d : DataW H} {p : List MemPlace} {k : Nat} (ht : P.underlying t = some (.array k e)) (he : P.underlying e = some (.int .u8)) (hc : P.cellsOf e = 1) (hk : P.cellsOf t = k)
    (hf : DataW.trod enc P W 0 (fun _ => true) true m t cs = some (d, p)) : ∃ g : List UInt8, cs = B8 g ∧ g.length = k := by
  obtain ⟨xs, m, _, _, hl, hx, hall⟩ := DataW.trod_array ht hf
  have hlen : cs.length = k := by rw [hl, hk]
  refine ⟨cs.map u8of, ?_, by simpa using hlen⟩
  have key : B8 (cs.map u8of) = cs := by
    unfold B8
    rw [List.map_map]
    conv => rhs; rw [← List.map_id cs]
    refine List.map_congr_left fun c hcm => ?_
    obtain ⟨i, hi, rfl⟩ := List.mem_iff_getElem.1 hcm
    have hi2 : i < k := by omega
    have h1 := hall i hi2
    rw [hc, Nat.mul_one] at h1
    rw [List.getElem?_eq_getElem (by omega)] at h1
    have e1 : (cs.drop i).take 1 = [cs[i]] := by
      rw [List.drop_eq_getElem_cons hi]
      rfl
    rw [e1] at h1
    obtain ⟨n, h2, _, h3⟩ := DataW.trod_int he h1
    simp only [List.cons.injEq, and_true] at h2
    rw [h2]
    simp [Lit.wf, IntKind.min, IntKind.max, IntKind.signed, IntKind.bits] at h3
    simp only [Function.comp, u8of, b8, id, UInt8.toNat_ofNat']
    congr 1
    omega
  exact key.symm
theorem H8_build : ∀ (n : Nat) (F : Nat → List UInt8), (∀ i, i < n → (F i).length = 32) → ∀ j u, (H8 ((List.range n).map F))[j]? = some u → j < n * 32 ∧ (B8 (F (j / 32)))[j % 32]? = some u
  | 0, F, h, j, u, hu => by simp [H8] at hu
  | n + 1, F, h, j, u, hu => by
    have hl : (H8 ((List.range n).map F)).length = n * 32 := by
      have : ∀ (m : Nat), m ≤ n → (H8 ((List.range m).map F)).length = m * 32 := by
        intro m
        induction m with
        | zero => intro _; rfl
        | succ m ih =>
          intro hm
          have := ih (by omega)
          rw [List.range_succ, List.map_append, H8, List.flatMap_append, List.length_append]
          simp only [List.map_cons, List.map_nil, List.flatMap_cons, List.flatMap_nil, List.append_nil, B8_len, h m (by omega)]
          rw [H8] at this
          omega
      exact this n (Nat.le_refl _)
    rw [List.range_succ, List.map_append, H8, List.flatMap_append] at hu
    simp only [List.map_cons, List.map_nil, List.flatMap_cons, List.flatMap_nil, List.append_nil] at hu
    by_cases hj : j < n * 32
    · rw [List.getElem?_append_left (by rw [H8] at hl; omega)] at hu
      have ih := H8_build n F (fun i hi => h i (by omega)) j u hu
      exact ⟨by omega, ih.2⟩
    · rw [List.getElem?_append_right (by rw [H8] at hl; omega)] at hu
      rw [show (List.flatMap B8 ((List.range n).map F)).length = n * 32 from hl] at hu
      have hlt := (List.getElem?_eq_some_iff.1 hu).1
      rw [B8_len, h n (by omega)] at hlt
      refine ⟨by omega, ?_⟩
      rw [show j / 32 = n from by omega, show j % 32 = j - n * 32 from by omega]
      exact hu
theorem arg_hashes {t e q : TypeId} {v : Value} {d : DataW H} {p : List MemPlace} {r : Reach} {base : Nat} (ht : P.underlying t = some (.slice e)) (he : P.underlying e = some (.array 32 q)) (hq : P.underlying q = some (.int .u8)) (hc : P.cellsOf q = 1) (hk : P.cellsOf e = 32)
    (hv : Value.okWide P W r base t v) (h : DataW.Trod enc P W 0 (fun _ => true) true t v d p) :
    ∃ (A : Option Addr) (n c : Nat) (hs : List (List UInt8)), v = .slice A n c ∧ n ≤ c ∧ c ≤ maxLen ∧ (∀ x ∈ hs, x.length = 32) ∧ hs.length = n ∧ Sl W 32 A n (H8 hs) := by
  obtain ⟨A, n, c, rfl⟩ := okWide_slice ht hv
  obtain ⟨fuel, hf⟩ := h
  rcases Go.Deep.open_slice ht hf with ⟨hcs, _⟩ | ⟨x, l, c', m, fu, D, Pl, hcs, _, hl, hm, hmm, _, hx⟩
  · simp [Value.cells] at hcs
    obtain ⟨rfl, rfl, rfl⟩ := hcs
    exact ⟨none, 0, 0, [], rfl, Nat.le_refl _, Nat.zero_le _, by simp, rfl, Sl.nil_⟩
  · simp [Value.cells] at hcs
    obtain ⟨rfl, rfl, rfl⟩ := hcs
    simp only [if_true] at hmm
    have key : ∀ i, i < n → ∃ g : List UInt8, g.length = 32 ∧ ∀ j, j < 32 → W.cell? ((x.add (i * 32)).add j) = (B8 g)[j]? := by
      intro i hi
      obtain ⟨cs', h1, h2⟩ := hx i (by omega)
      rw [hk] at h1
      obtain ⟨_, hl', hc'⟩ := World.cells?_some h1
      obtain ⟨g, rfl, hg⟩ := hash_of he hq hc hk h2
      exact ⟨g, hg, hc'⟩
    have hF : ∃ F : Nat → List UInt8, ∀ i, i < n → (F i).length = 32 ∧ ∀ j, j < 32 → W.cell? ((x.add (i * 32)).add j) = (B8 (F i))[j]? := by
      refine ⟨fun i => if h : i < n then Classical.choose (key i h) else [], fun i hi => ?_⟩
      simp only [dif_pos hi]
      exact Classical.choose_spec (key i hi)
    obtain ⟨F, hF⟩ := hF
    have hlen : ∀ y ∈ (List.range n).map F, y.length = 32 := by
      intro y hy
      obtain ⟨i, hi, rfl⟩ := List.mem_map.1 hy
      exact (hF i (List.mem_range.1 hi)).1
    have hH8 : ∀ (hs : List (List UInt8)), (∀ y ∈ hs, y.length = 32) → (H8 hs).length = hs.length * 32 := by
      intro hs
      induction hs with
      | nil => intro _; rfl
      | cons a hs ih =>
        intro h
        have := ih (fun y hy => h y (by simp [hy]))
        have h1 := h a (by simp)
        simp only [H8, List.flatMap_cons, List.length_append, B8_len, List.length_cons] at this ⊢
        omega
    refine ⟨some x, n, c, (List.range n).map F, rfl, hl, hm, hlen, by simp, ⟨by rw [hH8 _ hlen]; simp, fun hn => ?_⟩⟩
    have h0 := (hF 0 hn).2 0 (by decide)
    have hB0 : ∃ v0, (B8 (F 0))[0]? = some v0 := ⟨_, List.getElem?_eq_getElem (by rw [B8_len, (hF 0 hn).1]; decide)⟩
    obtain ⟨v0, hv0⟩ := hB0
    rw [hv0] at h0
    have hz0 : (x.add (0 * 32)).add 0 = x := by simp [Addr.add]
    rw [hz0] at h0
    obtain ⟨b, o, rfl, hb⟩ := spot_of h0
    refine ⟨b, o, rfl, hb, fun j u hu => ?_⟩
    obtain ⟨hj, hu2⟩ := H8_build n F (fun i hi => (hF i hi).1) j u hu
    have := (hF (j / 32) (by omega)).2 (j % 32) (Nat.mod_lt _ (by decide))
    rw [add_off, add_off, hu2, show o + j / 32 * 32 + j % 32 = o + j from by omega] at this
    exact this
end
end Go.Proofs.Ytakebmpnbdlcoaa
/- Maps whose elements are sums of 32 bytes: how such an element reads; looked up, stored, ranged over. -/
set_option linter.unusedSimpArgs false
set_option linter.unusedVariables false
namespace Go.Proofs.Ytakebmpnbdlcoaa
open Go.RowKit
set_option maxRecDepth 100000
open Go.Maps (Keyed)
def un8 (v : Value) : Option UInt8 := match v with | .int .u8 n => if 0 ≤ n ∧ n < 256 then some (UInt8.ofNat n.toNat) else none | _ => none
def unL : List Value → Option (List UInt8)
  | [] => some []
  | v :: l => match un8 v, unL l with | some x, some r => some (x :: r) | _, _ => none
theorem un8_mk (c : UInt8) : un8 (b8 c) = some c := by
  have := c.toNat_lt
  unfold un8 b8
  simp
  omega
theorem un8_inv {v : Value} {c : UInt8} (h : un8 v = some c) : v = b8 c := by
  unfold un8 at h
  split at h
  · split at h
    · rename_i n hn
      injection h with h
      subst h
      unfold b8
      rw [UInt8.toNat_ofNat']
      congr 1
      omega
    · cases h
  · cases h
theorem unL_mk : ∀ (l : List UInt8), unL (B8 l) = some l
  | [] => rfl
  | c :: l => by
    show unL (b8 c :: B8 l) = _
    unfold unL
    rw [un8_mk, unL_mk l]
theorem unL_inv : ∀ (vs : List Value) (l : List UInt8), unL vs = some l → vs = B8 l
  | [], l, h => by
    unfold unL at h
    injection h with h
    subst h
    rfl
  | v :: vs, l, h => by
    unfold unL at h
    split at h
    · rename_i x r h1 h2
      injection h with h
      subst h
      rw [un8_inv h1, unL_inv vs r h2]
      rfl
    · cases h
/-- how a sum reads as a map's element -/
def HR (v : Value) : Option (DataW Unit × List MemPlace) := match v with
  | .agg cs => match unL cs.toList with | some g => if g.length = 32 then some (.lit (.string g), []) else none | none => none
  | _ => none
theorem HR_mk {g : List UInt8} (h : g.length = 32) : HR (hv g) = some (.lit (.string g), []) := by
  unfold HR hv
  simp only [unL_mk, h, if_true]
theorem HR_inv {v : Value} {y : DataW Unit × List MemPlace} (h : HR v = some y) : ∃ g : List UInt8, v = hv g ∧ g.length = 32 ∧ y = (.lit (.string g), []) := by
  unfold HR at h
  split at h
  · rename_i cs
    split at h
    · rename_i g hg
      split at h
      · rename_i hl
        injection h with h
        refine ⟨g, ?_, hl, h.symm⟩
        unfold hv
        rw [← unL_inv _ _ hg]
      · cases h
    · cases h
  · cases h
def Z32d : DataW Unit := .lit (.string (List.replicate 32 0))
section
variable {P : Program} {w : World} {k t e : TypeId} {b n : Nat} {D : DataW Unit}
/-- 'm[k]': the sum that stands at the key, or noughts -/
theorem lookup_h (h : w.ownsMap P k HR b n D) (K : Keyed P k) (ht : P.underlying t = some (.map k e)) (hz : (zeroValue e).run P w = .ok (hv (List.replicate 32 0)) w) {key : Value} {kl : Lit} (hkey : keyOf P k key = some kl) :
    ∃ g : List UInt8, g.length = 32 ∧ (Instr.lookup t (.map (some b)) key false).run P w = .ok (hv g) w ∧ D.atKey kl Z32d = .lit (.string g) := by
  obtain ⟨v, ps, hrun, hv'⟩ := h.lookup K ht hz (HR_mk (by simp)) hkey
  obtain ⟨g, rfl, hg, hy⟩ := HR_inv hv'
  simp only [Prod.mk.injEq] at hy
  exact ⟨g, hg, hrun, hy.1⟩
end
theorem Z32d_eq : Z32d = .lit (.string (List.replicate 32 0)) := rfl
section
variable {P : Program} {k t e : TypeId}
/-- what a map holds at each key of a family 'key', noughts where there is none -/
def MapF {α : Type} (P : Program) (k : TypeId) (key : α → Value) (w : World) (b n : Nat) (D : DataW Unit) (f : α → List UInt8) : Prop :=
  w.ownsMap P k HR b n D ∧ ∀ x kl, keyOf P k (key x) = some kl → D.atKey kl Z32d = .lit (.string (f x))
theorem MapF.get {α : Type} {key : α → Value} {w : World} {b n : Nat} {D : DataW Unit} {f : α → List UInt8} (h : MapF P k key w b n D f) (K : Keyed P k) (ht : P.underlying t = some (.map k e)) (hz : (zeroValue e).run P w = .ok (hv (List.replicate 32 0)) w)
    {x : α} {kl : Lit} (hkey : keyOf P k (key x) = some kl) : (f x).length = 32 ∧ (Instr.lookup t (.map (some b)) (key x) false).run P w = .ok (hv (f x)) w := by
  obtain ⟨g, hg, hrun, hat⟩ := lookup_h h.1 K ht hz hkey
  have := h.2 x kl hkey
  rw [hat] at this
  injection this with this
  injection this with this
  subst this
  exact ⟨hg, hrun⟩
/-- 'm[k] = v' -/
theorem MapF.put {α : Type} [DecidableEq α] {key : α → Value} (hinj : ∀ x y, key x = key y → x = y) {w : World} {b n : Nat} {D : DataW Unit} {f : α → List UInt8} (h : MapF P k key w b n D f) (K : Keyed P k) (ht : P.underlying t = some (.map k e)) (hn : n < maxLen)
    {x : α} {kl : Lit} (hkey : keyOf P k (key x) = some kl) {g : List UInt8} (hg : g.length = 32) :
    ∃ w', (Instr.mapUpdate t (.map (some b)) (key x) (hv g)).run P w = .ok () w' ∧ MapF P k key w' b (n + 1) (D.put kl (.lit (.string g))) (fun y => if y = x then g else f y) ∧ w.grownBy w' (some b) := by
  obtain ⟨w', hrun, hown, hgr⟩ := h.1.update K ht hn hkey (HR_mk hg)
  have hmap : Maps.IsMap D := (h.1.tidy K).isMap
  refine ⟨w', hrun, ⟨hown, fun y ly hy => ?_⟩, hgr⟩
  show _ = DataW.lit (Lit.string (if y = x then g else f y))
  by_cases hyx : y = x
  · subst hyx
    rw [if_pos rfl]
    rw [hkey] at hy
    injection hy with hy
    subst hy
    exact Maps.atKey_put_same hmap (K.key hkey) _ _
  · rw [if_neg hyx, Maps.atKey_put_other (fun e => hyx (hinj y x (K.inj hy (by rw [e]; exact hkey))))]
    exact h.2 y ly hy
theorem MapF.new {α : Type} {key : α → Value} (w : World) (P : Program) (k : TypeId) : MapF P k key (w.alloc (.map #[] 0)) w.heap.size 0 (.map []) (fun _ => List.replicate 32 0) :=
  ⟨World.ownsMap_made w P k HR, fun _ _ _ => rfl⟩
theorem MapF.kept {α : Type} {key : α → Value} {w w' : World} {b n : Nat} {D : DataW Unit} {f : α → List UInt8} {row : Option Nat} (h : MapF P k key w b n D f) (hg : w.grownBy w' row) (hne : some b ≠ row) : MapF P k key w' b n D f := ⟨h.1.kept hg hne, h.2⟩
theorem wp_mput {α : Type} [DecidableEq α] {key : α → Value} (hinj : ∀ x y, key x = key y → x = y) {o : Oper} {a : Act} {w : World} {K : Act → World → Prop} {Q : Exit → Act → World → Prop} (m y v : Operand) (hop : o.op = .mapUpdate t m y v)
    (Kd : Keyed P k) (ht : P.underlying t = some (.map k e)) {b n : Nat} {D : DataW Unit} {f : α → List UInt8} (hm : a.eval m = .map (some b)) (h : MapF P k key w b n D f) (hn : n < maxLen) (x : α) (hx : a.eval y = key x) {kl : Lit} (hkey : keyOf P k (key x) = some kl)
    (g : List UInt8) (hg : g.length = 32) (hv' : a.eval v = hv g)
    (hK : ∀ w', MapF P k key w' b (n + 1) (D.put kl (.lit (.string g))) (fun y => if y = x then g else f y) → w.grownBy w' (some b) → K (a.put o.dst undef) w') : o.wp P a w K Q := by
  obtain ⟨w', hrun, h1, h2⟩ := h.put hinj Kd ht hn hkey hg
  unfold Oper.wp
  simp [execOp, hop, hm, hx, hv', hrun, Result.andThen]
  exact hK w' h1 h2
theorem wp_mget {α : Type} {key : α → Value} {o : Oper} {a : Act} {w : World} {K : Act → World → Prop} {Q : Exit → Act → World → Prop} (m y : Operand) (hop : o.op = .lookup t m y false)
    (Kd : Keyed P k) (ht : P.underlying t = some (.map k e)) (hz : (zeroValue e).run P w = .ok (hv (List.replicate 32 0)) w) {b n : Nat} {D : DataW Unit} {f : α → List UInt8} (hm : a.eval m = .map (some b)) (h : MapF P k key w b n D f) (x : α) (hx : a.eval y = key x) {kl : Lit} (hkey : keyOf P k (key x) = some kl)
    (hK : (f x).length = 32 → K (a.put o.dst (hv (f x))) w) : o.wp P a w K Q := by
  obtain ⟨hg, hrun⟩ := h.get Kd ht hz hkey
  unfold Oper.wp
  simp [execOp, hop, hm, hx, hrun, Result.andThen]
  exact hK hg
end
end Go.Proofs.Ytakebmpnbdlcoaa
/- Plain law: SHA-256 as a function of bytes. -/
set_option linter.unusedSimpArgs false
set_option linter.unusedVariables false
namespace Go.Proofs.Ytakebmpnbdlcoaa
def rotr (n x : Nat) : Nat := x / 2 ^ n ||| (x * 2 ^ (32 - n)) % 4294967296
structure S8 where
  a : Nat
  b : Nat
  c : Nat
  d : Nat
  e : Nat
  f : Nat
  g : Nat
  h : Nat
def lsig0 (x : Nat) : Nat := (rotr 7 x ^^^ rotr 18 x) ^^^ x / 8
def lsig1 (x : Nat) : Nat := (rotr 17 x ^^^ rotr 19 x) ^^^ x / 1024
def usig0 (x : Nat) : Nat := (rotr 2 x ^^^ rotr 13 x) ^^^ rotr 22 x
def usig1 (x : Nat) : Nat := (rotr 6 x ^^^ rotr 11 x) ^^^ rotr 25 x
def chs (e f g : Nat) : Nat := (e &&& f) ^^^ ((4294967295 - e) &&& g)
def maj (a b c : Nat) : Nat := ((a &&& b) ^^^ (a &&& c)) ^^^ (b &&& c)
def shaKs : List Nat := [
  0x428a2f98, 0x71374491, 0xb5c0fbcf, 0xe9b5dba5, 0x3956c25b, 0x59f111f1, 0x923f82a4, 0xab1c5ed5,
  0xd807aa98, 0x12835b01, 0x243185be, 0x550c7dc3, 0x72be5d74, 0x80deb1fe, 0x9bdc06a7, 0xc19bf174,
  0xe49b69c1, 0xefbe4786, 0x0fc19dc6, 0x240ca1cc, 0x2de92c6f, 0x4a7484aa, 0x5cb0a9dc, 0x76f988da,
  0x983e5152, 0xa831c66d, 0xb00327c8, 0xbf597fc7, 0xc6e00bf3, 0xd5a79147, 0x06ca6351, 0x14292967,
  0x27b70a85, 0x2e1b2138, 0x4d2c6dfc, 0x53380d13, 0x650a7354, 0x766a0abb, 0x81c2c92e, 0x92722c85,
  0xa2bfe8a1, 0xa81a664b, 0xc24b8b70, 0xc76c51a3, 0xd192e819, 0xd6990624, 0xf40e3585, 0x106aa070,
  0x19a4c116, 0x1e376c08, 0x2748774c, 0x34b0bcb5, 0x391c0cb3, 0x4ed8aa4a, 0x5b9cca4f, 0x682e6ff3,
  0x748f82ee, 0x78a5636f, 0x84c87814, 0x8cc70208, 0x90befffa, 0xa4506ceb, 0xbef9a3f7, 0xc67178f2]
def shaBegun : S8 := ⟨0x6a09e667, 0xbb67ae85, 0x3c6ef372, 0xa54ff53a, 0x510e527f, 0x9b05688c, 0x1f83d9ab, 0x5be0cd19⟩
/-- word j of a block -/
def w4 (l : List UInt8) (j : Nat) : Nat := (l.getD (4 * j) 0).toNat * 16777216 + (l.getD (4 * j + 1) 0).toNat * 65536 + (l.getD (4 * j + 2) 0).toNat * 256 + (l.getD (4 * j + 3) 0).toNat
def nextW (l : List Nat) (i : Nat) : Nat := (l.getD (i - 16) 0 + lsig0 (l.getD (i - 15) 0) + l.getD (i - 7) 0 + lsig1 (l.getD (i - 2) 0)) % 4294967296
/-- the first i words of a block's 64 -/
def sched (l : List UInt8) : Nat → List Nat
  | 0 => []
  | i + 1 => sched l i ++ [if i < 16 then w4 l i else nextW (sched l i) i]
def rnd (s : S8) (k w : Nat) : S8 :=
  ⟨(s.h + usig1 s.e + chs s.e s.f s.g + k + w + (usig0 s.a + maj s.a s.b s.c)) % 4294967296, s.a, s.b, s.c, (s.d + (s.h + usig1 s.e + chs s.e s.f s.g + k + w)) % 4294967296, s.e, s.f, s.g⟩
def rnds (ws : List Nat) (s : S8) : Nat → S8
  | 0 => s
  | i + 1 => rnd (rnds ws s i) (shaKs.getD i 0) (ws.getD i 0)
def addS (s t : S8) : S8 := ⟨(s.a + t.a) % 4294967296, (s.b + t.b) % 4294967296, (s.c + t.c) % 4294967296, (s.d + t.d) % 4294967296, (s.e + t.e) % 4294967296, (s.f + t.f) % 4294967296, (s.g + t.g) % 4294967296, (s.h + t.h) % 4294967296⟩
def comp (s : S8) (l : List UInt8) : S8 := addS (rnds (sched l 64) s 64) s
def run (s : S8) (l : List UInt8) : Nat → S8
  | 0 => s
  | n + 1 => comp (run s l n) ((l.drop (64 * n)).take 64)
def be8 (n : Nat) : List UInt8 := [UInt8.ofNat (n / 72057594037927936), UInt8.ofNat (n / 281474976710656), UInt8.ofNat (n / 1099511627776), UInt8.ofNat (n / 4294967296), UInt8.ofNat (n / 16777216), UInt8.ofNat (n / 65536), UInt8.ofNat (n / 256), UInt8.ofNat n]
def padZ (n : Nat) : Nat := (119 - n % 64) % 64
def pad (b : List UInt8) : List UInt8 := b ++ [128] ++ List.replicate (padZ b.length) 0 ++ be8 (8 * b.length)
def be4 (n : Nat) : List UInt8 := [UInt8.ofNat (n / 16777216), UInt8.ofNat (n / 65536), UInt8.ofNat (n / 256), UInt8.ofNat n]
def S8.list (s : S8) : List Nat := [s.a, s.b, s.c, s.d, s.e, s.f, s.g, s.h]
def S8.bytes (s : S8) : List UInt8 := s.list.flatMap be4
/-- the sum of bytes -/
def shaS (b : List UInt8) : List UInt8 := (run shaBegun (pad b) ((pad b).length / 64)).bytes
def dig (n : Nat) : UInt8 := if n < 10 then UInt8.ofNat (48 + n) else UInt8.ofNat (87 + n)
def hexS (h : List UInt8) : List UInt8 := h.flatMap fun x => [dig (x.toNat / 16), dig (x.toNat % 16)]
def twoS (a b : List UInt8) : List UInt8 := shaS ([1] ++ a ++ b)
theorem shaS_len (b : List UInt8) : (shaS b).length = 32 := by simp [shaS, S8.bytes, S8.list, be4]
theorem twoS_len (a b : List UInt8) : (twoS a b).length = 32 := shaS_len _
theorem pad_len (b : List UInt8) : (pad b).length % 64 = 0 := by simp [pad, be8, padZ]; omega
end Go.Proofs.Ytakebmpnbdlcoaa
/- Walks: slices.Clone at bytes. -/
set_option linter.unusedSimpArgs false
set_option linter.unusedVariables false
namespace Go.Proofs.Ytakebmpnbdlcoaa
open Go.RowKit
set_option maxRecDepth 100000

theorem elB : El Try.prog 67 5 1 1 := El.mk' (z := .int .u8 0) Try.underlying67 (by kernel_rfl) rfl (by decide)

/-- slices.Clone at bytes. -/
theorem clone_B (A : Option Addr) (n c : Nat) (xs : List Value) (w : World) (h : Sl w 1 A n xs) (h1 : ∀ u ∈ xs, u.oneCell' = true) (hn : n ≤ 140737488355328) :
    Calls Try.prog 59 #[.slice A n c] w (RSl w 5 1 xs) := by
  have q : ∀ (W : World) (A : Option Addr), (binOp .eql 67 (.slice A n c) (.slice none 0 0)).run Try.prog W = .ok (.bool A.isNone) W := fun W A => Lib.run_eql_slice_nil W _ _ A n c 0 0 Try.underlying67
  rcases A with _ | ad
  · obtain rfl : n = 0 := by
      rcases Nat.eq_zero_or_pos n with h0 | h0
      · exact h0
      · obtain ⟨_, _, h, _⟩ := h.cells h0
        cases h
    obtain rfl : xs = [] := List.eq_nil_of_length_eq_zero (by simpa using h.len)
    go_enter Try.func59, Try.ntmps59
    go_wp2
    go_ret
    exact RSl.mk Own.nil_ (Below.refl _ _)
  · go_enter Try.func59, Try.ntmps59
    go_wp2_with (first
      | (at_builtin
         refine wpl_app _ _ _ _ elB rfl rfl rfl (Own.made w w.heap.size 5 #[] (Nat.le_refl _) (Nat.zero_le _) (by simp)) rfl (h.alloc _) h1 (by omega) (by omega) (by simp) ?_
         intro A' c' w' g))
    go_ret
    refine RSl.mk (by simpa using g.own) ?_
    exact below_grown ((Below.refl _ _).alloc (Nat.le_refl _) _) g.grow (by simp) (by intro k hk; simp at hk; omega)

end Go.Proofs.Ytakebmpnbdlcoaa
/- Walks: bits.RotateLeft32, sha.right, capstanref2.rot. -/
set_option linter.unusedSimpArgs false
set_option linter.unusedVariables false
namespace Go.Proofs.Ytakebmpnbdlcoaa
open Go.RowKit
set_option maxRecDepth 100000
theorem rot_lt {x n : Nat} (hx : x < 4294967296) : rotr n x < 4294967296 := by
  unfold rotr
  exact Nat.or_lt_two_pow (n := 32) (Nat.lt_of_le_of_lt (Nat.div_le_self _ _) hx) (Nat.mod_lt _ (by decide))
theorem rot_bits (x n : Nat) (hx : x < 4294967296) : bits .or .u32 ((x : Int) / 2 ^ n) ((x : Int) * 2 ^ (32 - n) % 4294967296) = ((rotr n x : Nat) : Int) := by
  have e := u32_or_nat (x / 2 ^ n) (x * 2 ^ (32 - n) % 4294967296) (Nat.lt_of_le_of_lt (Nat.div_le_self _ _) hx) (Nat.mod_lt _ (by decide))
  unfold rotr
  rw [← e]
  simp [Int.natCast_ediv, Int.natCast_pow]
theorem rot_bits' (x n m : Nat) (hx : x < 4294967296) (h : m + n = 32) : bits .or .u32 ((x : Int) * 2 ^ m % 4294967296) ((x : Int) / 2 ^ n) = ((rotr n x : Nat) : Int) := by
  have e := u32_or_nat (x * 2 ^ (32 - n) % 4294967296) (x / 2 ^ n) (Nat.mod_lt _ (by decide)) (Nat.lt_of_le_of_lt (Nat.div_le_self _ _) hx)
  obtain rfl : m = 32 - n := by omega
  unfold rotr
  rw [Nat.or_comm, ← e]
  simp [Int.natCast_ediv, Int.natCast_pow]
theorem neg_and (n m : Nat) (h1 : 1 ≤ n) (h : m + n = 32) : bits .and .u64 (IntKind.u64.wrap (-(n : Int))) 31 = (m : Int) := by
  have e1 : IntKind.u64.wrap (-(n : Int)) = ((18446744073709551616 - n : Nat) : Int) := by
    rw [show ∀ m, IntKind.u64.wrap m = m % 18446744073709551616 from fun m => by simp [IntKind.wrap, IntKind.bits, IntKind.signed]]
    omega
  rw [e1, show (31 : Int) = ((31 : Nat) : Int) from rfl, u64_and_nat _ 31 (by omega) (by omega)]
  have e2 := Nat.and_two_pow_sub_one_eq_mod (18446744073709551616 - n) 5
  simp only [Nat.reducePow, Nat.reduceSub] at e2
  rw [e2]
  omega
theorem rotl_any (x n : Nat) (w : World) (hx : x < 4294967296) (h1 : 1 ≤ n) (h2 : n < 32) :
    Calls Try.prog 70 #[.int .u32 x, .int .i64 (-(n : Int))] w fun e w' => e = .returned (.int .u32 ((rotr n x : Nat) : Int)) ∧ w = w' := by
  obtain ⟨m, hm⟩ : ∃ m, m + n = 32 := ⟨32 - n, by omega⟩
  have na := neg_and n m h1 hm
  have X := Lib.hid (rot_bits' x n m hx hm)
  have q : (32 - (m : Int)) = (n : Int) := by omega
  have q2 : m < 32 := by omega
  have HM := Lib.hid hm
  clear hm
  go_enter Try.func70, Try.ntmps70
  go_wp2_with fail
  go_ret
  exact ⟨ret_int X.out, rfl⟩
theorem right_any (x n : Nat) (w : World) (hx : x < 4294967296) (h1 : 1 ≤ n) (h2 : n < 32) :
    Calls Try.prog 68 #[.int .u32 x, .int .i64 n] w fun e w' => e = .returned (.int .u32 ((rotr n x : Nat) : Int)) ∧ w = w' := by
  go_enter Try.func68, Try.ntmps68
  go_wp2_with fail
  refine (rotl_any x n w hx h1 h2).mono ?_
  rintro e w' ⟨rfl, rfl⟩
  go_wp2
  go_ret
  exact ⟨rfl, rfl⟩
theorem rot_any (x n : Nat) (w : World) (hx : x < 4294967296) (h1 : 1 ≤ n) (h2 : n < 32) :
    Calls Try.prog 64 #[.int .u32 x, .int .u64 n] w fun e w' => e = .returned (.int .u32 ((rotr n x : Nat) : Int)) ∧ w = w' := by
  go_enter Try.func64, Try.ntmps64
  go_wp2_with fail
  go_ret
  exact ⟨ret_int (rot_bits x n hx), rfl⟩
end Go.Proofs.Ytakebmpnbdlcoaa
/- Walks: sha.spread. -/
set_option linter.unusedSimpArgs false
set_option linter.unusedVariables false
namespace Go.Proofs.Ytakebmpnbdlcoaa
open Go.RowKit
set_option maxRecDepth 100000
def V32 (l : List Nat) : List Value := l.map fun n : Nat => Value.int .u32 (n : Int)
theorem V32_len (l : List Nat) : (V32 l).length = l.length := by simp [V32]
theorem V32_get {l : List Nat} {i n : Nat} (h : l[i]? = some n) : (V32 l)[i]? = some (.int .u32 (n : Int)) := by simp [V32, h]
theorem V32_one (l : List Nat) : ∀ v ∈ V32 l, v.oneCell' = true := by
  intro u hu
  obtain ⟨c, _, rfl⟩ := List.mem_map.1 hu
  rfl
theorem w4_lt (l : List UInt8) (i : Nat) : w4 l i < 4294967296 := by
  unfold w4
  have := (l.getD (4 * i) 0).toNat_lt
  have := (l.getD (4 * i + 1) 0).toNat_lt
  have := (l.getD (4 * i + 2) 0).toNat_lt
  have := (l.getD (4 * i + 3) 0).toNat_lt
  omega
theorem sched_lt (l : List UInt8) : ∀ (i j : Nat), (sched l i).getD j 0 < 4294967296
  | 0, j => by simp [sched]
  | i + 1, j => by
    have hl := sched_lt l i j
    unfold sched
    simp only [List.getD, List.getElem?_append] at hl ⊢
    split
    · exact hl
    · rcases Nat.eq_zero_or_pos (j - (sched l i).length) with h | h
      · rw [h]
        simp only [List.getElem?_cons_zero, Option.getD_some]
        split
        · exact w4_lt l i
        · exact Nat.mod_lt _ (by decide)
      · rw [List.getElem?_eq_none (by simp; omega)]
        simp
theorem sched_len (l : List UInt8) : ∀ i, (sched l i).length = i
  | 0 => rfl
  | i + 1 => by simp [sched, sched_len l i]
theorem sched_lo (l : List UInt8) (i : Nat) (h : i < 16) : sched l (i + 1) = sched l i ++ [w4 l i] := by rw [sched, if_pos h]
theorem sched_hi (l : List UInt8) (i : Nat) (h : 16 ≤ i) : sched l (i + 1) = sched l i ++ [nextW (sched l i) i] := by rw [sched, if_neg (by omega)]
theorem fill_set (l : List Nat) (i k x : Nat) (z : Value) (hl : l.length = i) (hk : 0 < k) : (V32 l ++ List.replicate k z).set i (.int .u32 (x : Int)) = V32 (l ++ [x]) ++ List.replicate (k - 1) z := by
  obtain ⟨k, rfl⟩ : ∃ j, k = j + 1 := ⟨k - 1, by omega⟩
  rw [List.set_append_right _ _ (by rw [V32_len]; omega), V32_len, hl, Nat.sub_self, List.replicate_succ, List.set_cons_zero]
  simp [V32]
theorem wrap_u32_nat (a : Nat) (h : a < 4294967296) : IntKind.u32.wrap (a : Int) = (a : Int) := by rw [IntKind.wrap_u32']; omega
theorem be_word (a b c d : UInt8) : bits .or .u32 (bits .or .u32 (bits .or .u32 (IntKind.u32.wrap (IntKind.u32.wrap (a.toNat : Int) * 16777216)) (IntKind.u32.wrap (IntKind.u32.wrap (b.toNat : Int) * 65536))) (IntKind.u32.wrap (IntKind.u32.wrap (c.toNat : Int) * 256))) (IntKind.u32.wrap (d.toNat : Int)) = ((a.toNat * 16777216 + b.toNat * 65536 + c.toNat * 256 + d.toNat : Nat) : Int) := by
  have ha := a.toNat_lt
  have hb := b.toNat_lt
  have hc := c.toNat_lt
  have hd := d.toNat_lt
  generalize a.toNat = a at *
  generalize b.toNat = b at *
  generalize c.toNat = c at *
  generalize d.toNat = d at *
  have e : ∀ x k : Nat, x < 256 → k ≤ 16777216 → IntKind.u32.wrap (IntKind.u32.wrap (x : Int) * (k : Int)) = ((x * k : Nat) : Int) := by
    intro x k hx hk
    have hxk : x * k < 256 * 16777216 := Nat.lt_of_lt_of_le (Nat.mul_lt_mul_of_lt_of_le hx hk (by decide)) (Nat.le_refl _)
    rw [wrap_u32_nat x (by omega), ← Int.natCast_mul, wrap_u32_nat _ (by omega)]
  have ea := e a 16777216 (by omega) (by omega)
  have eb := e b 65536 (by omega) (by omega)
  have ec := e c 256 (by omega) (by omega)
  simp only [Int.cast_ofNat_Int] at ea eb ec
  rw [ea, eb, ec, wrap_u32_nat d (by omega), u32_or_nat _ _ (by omega) (by omega), nat_join 24 _ _ (by omega) (by omega), u32_or_nat _ _ (by omega) (by omega), nat_join 16 _ _ (by omega) (by omega), u32_or_nat _ _ (by omega) (by omega), nat_join 8 _ _ (by omega) (by omega)]
theorem shr_lt {x : Nat} (k : Nat) (h : x < 4294967296) : x / k < 4294967296 := Nat.lt_of_le_of_lt (Nat.div_le_self _ _) h
theorem xor_lt {a b : Nat} (ha : a < 4294967296) (hb : b < 4294967296) : a ^^^ b < 4294967296 := Nat.xor_lt_two_pow (n := 32) ha hb
theorem and_lt {a b : Nat} (ha : a < 4294967296) : a &&& b < 4294967296 := Nat.lt_of_le_of_lt Nat.and_le_left ha
theorem lsig0_lt {x : Nat} (h : x < 4294967296) : lsig0 x < 4294967296 := xor_lt (xor_lt (rot_lt h) (rot_lt h)) (shr_lt _ h)
theorem lsig1_lt {x : Nat} (h : x < 4294967296) : lsig1 x < 4294967296 := xor_lt (xor_lt (rot_lt h) (rot_lt h)) (shr_lt _ h)
theorem usig0_lt {x : Nat} (h : x < 4294967296) : usig0 x < 4294967296 := xor_lt (xor_lt (rot_lt h) (rot_lt h)) (rot_lt h)
theorem usig1_lt {x : Nat} (h : x < 4294967296) : usig1 x < 4294967296 := xor_lt (xor_lt (rot_lt h) (rot_lt h)) (rot_lt h)
theorem lsig0_bits (x : Nat) (h : x < 4294967296) : bits .xor .u32 (bits .xor .u32 ((rotr 7 x : Nat) : Int) ((rotr 18 x : Nat) : Int)) ((x : Int) / 8) = ((lsig0 x : Nat) : Int) := by
  rw [u32_xor_nat _ _ (rot_lt h) (rot_lt h), show ((x : Int) / 8) = ((x / 8 : Nat) : Int) from by omega, u32_xor_nat _ _ (xor_lt (rot_lt h) (rot_lt h)) (shr_lt _ h)]
  rfl
theorem lsig1_bits (x : Nat) (h : x < 4294967296) : bits .xor .u32 (bits .xor .u32 ((rotr 17 x : Nat) : Int) ((rotr 19 x : Nat) : Int)) ((x : Int) / 1024) = ((lsig1 x : Nat) : Int) := by
  rw [u32_xor_nat _ _ (rot_lt h) (rot_lt h), show ((x : Int) / 1024) = ((x / 1024 : Nat) : Int) from by omega, u32_xor_nat _ _ (xor_lt (rot_lt h) (rot_lt h)) (shr_lt _ h)]
  rfl
theorem usig0_bits (x : Nat) (h : x < 4294967296) : bits .xor .u32 (bits .xor .u32 ((rotr 2 x : Nat) : Int) ((rotr 13 x : Nat) : Int)) ((rotr 22 x : Nat) : Int) = ((usig0 x : Nat) : Int) := by
  rw [u32_xor_nat _ _ (rot_lt h) (rot_lt h), u32_xor_nat _ _ (xor_lt (rot_lt h) (rot_lt h)) (rot_lt h)]
  rfl
theorem usig1_bits (x : Nat) (h : x < 4294967296) : bits .xor .u32 (bits .xor .u32 ((rotr 6 x : Nat) : Int) ((rotr 11 x : Nat) : Int)) ((rotr 25 x : Nat) : Int) = ((usig1 x : Nat) : Int) := by
  rw [u32_xor_nat _ _ (rot_lt h) (rot_lt h), u32_xor_nat _ _ (xor_lt (rot_lt h) (rot_lt h)) (rot_lt h)]
  rfl
theorem sum4 (a b c d : Nat) : IntKind.u32.wrap (IntKind.u32.wrap (IntKind.u32.wrap ((a : Int) + (b : Int)) + (c : Int)) + (d : Int)) = (((a + b + c + d) % 4294967296 : Nat) : Int) := by
  simp only [IntKind.wrap_u32']
  omega
set_option maxHeartbeats 1000000 in
theorem spread_any (b o c : Nat) (l : List UInt8) (w : World) (hs : Sl w 1 (some ⟨b, o, none⟩) 64 (B8 l)) (hb : b < w.heap.size) (hc : 64 ≤ c) (hc2 : c ≤ 9223372036854775807) :
    Calls Try.prog 66 #[.slice (some ⟨b, o, none⟩) 64 c] w fun e w' => e = .returned (.agg (V32 (sched l 64)).toArray) ∧ Below w.heap.size w w' := by
  have hl : l.length = 64 := hs.len8.symm
  obtain ⟨W, hW⟩ : ∃ W, W = (w.alloc (.cells #[.int .u32 0, .int .u32 0, .int .u32 0, .int .u32 0, .int .u32 0, .int .u32 0, .int .u32 0, .int .u32 0, .int .u32 0, .int .u32 0, .int .u32 0, .int .u32 0, .int .u32 0, .int .u32 0, .int .u32 0, .int .u32 0, .int .u32 0, .int .u32 0, .int .u32 0, .int .u32 0, .int .u32 0, .int .u32 0, .int .u32 0, .int .u32 0, .int .u32 0, .int .u32 0, .int .u32 0, .int .u32 0, .int .u32 0, .int .u32 0, .int .u32 0, .int .u32 0, .int .u32 0, .int .u32 0, .int .u32 0, .int .u32 0, .int .u32 0, .int .u32 0, .int .u32 0, .int .u32 0, .int .u32 0, .int .u32 0, .int .u32 0, .int .u32 0, .int .u32 0, .int .u32 0, .int .u32 0, .int .u32 0, .int .u32 0, .int .u32 0, .int .u32 0, .int .u32 0, .int .u32 0, .int .u32 0, .int .u32 0, .int .u32 0, .int .u32 0, .int .u32 0, .int .u32 0, .int .u32 0, .int .u32 0, .int .u32 0, .int .u32 0, .int .u32 0] 93)).alloc (.cells #[.int .u32 0, .int .u32 0, .int .u32 0, .int .u32 0, .int .u32 0, .int .u32 0, .int .u32 0, .int .u32 0, .int .u32 0, .int .u32 0, .int .u32 0, .int .u32 0, .int .u32 0, .int .u32 0, .int .u32 0, .int .u32 0, .int .u32 0, .int .u32 0, .int .u32 0, .int .u32 0, .int .u32 0, .int .u32 0, .int .u32 0, .int .u32 0, .int .u32 0, .int .u32 0, .int .u32 0, .int .u32 0, .int .u32 0, .int .u32 0, .int .u32 0, .int .u32 0, .int .u32 0, .int .u32 0, .int .u32 0, .int .u32 0, .int .u32 0, .int .u32 0, .int .u32 0, .int .u32 0, .int .u32 0, .int .u32 0, .int .u32 0, .int .u32 0, .int .u32 0, .int .u32 0, .int .u32 0, .int .u32 0, .int .u32 0, .int .u32 0, .int .u32 0, .int .u32 0, .int .u32 0, .int .u32 0, .int .u32 0, .int .u32 0, .int .u32 0, .int .u32 0, .int .u32 0, .int .u32 0, .int .u32 0, .int .u32 0, .int .u32 0, .int .u32 0] 93) := ⟨_, rfl⟩
  have hbw : Below w.heap.size w W := by
    subst hW
    exact ((Below.refl _ _).alloc (Nat.le_refl _) _).alloc (by simp) _
  have b2 : Blk W w.heap.size 93 (List.replicate 64 (.int .u32 0)) := by
    subst hW
    exact (Blk.new w #[.int .u32 0, .int .u32 0, .int .u32 0, .int .u32 0, .int .u32 0, .int .u32 0, .int .u32 0, .int .u32 0, .int .u32 0, .int .u32 0, .int .u32 0, .int .u32 0, .int .u32 0, .int .u32 0, .int .u32 0, .int .u32 0, .int .u32 0, .int .u32 0, .int .u32 0, .int .u32 0, .int .u32 0, .int .u32 0, .int .u32 0, .int .u32 0, .int .u32 0, .int .u32 0, .int .u32 0, .int .u32 0, .int .u32 0, .int .u32 0, .int .u32 0, .int .u32 0, .int .u32 0, .int .u32 0, .int .u32 0, .int .u32 0, .int .u32 0, .int .u32 0, .int .u32 0, .int .u32 0, .int .u32 0, .int .u32 0, .int .u32 0, .int .u32 0, .int .u32 0, .int .u32 0, .int .u32 0, .int .u32 0, .int .u32 0, .int .u32 0, .int .u32 0, .int .u32 0, .int .u32 0, .int .u32 0, .int .u32 0, .int .u32 0, .int .u32 0, .int .u32 0, .int .u32 0, .int .u32 0, .int .u32 0, .int .u32 0, .int .u32 0, .int .u32 0] 93).to ((Below.refl _ _).alloc (Nat.le_refl _) _)
  have b3 : Blk W (w.heap.size + 1) 93 (List.replicate 64 (.int .u32 0)) := by
    subst hW
    have := Blk.new (w.alloc (.cells #[.int .u32 0, .int .u32 0, .int .u32 0, .int .u32 0, .int .u32 0, .int .u32 0, .int .u32 0, .int .u32 0, .int .u32 0, .int .u32 0, .int .u32 0, .int .u32 0, .int .u32 0, .int .u32 0, .int .u32 0, .int .u32 0, .int .u32 0, .int .u32 0, .int .u32 0, .int .u32 0, .int .u32 0, .int .u32 0, .int .u32 0, .int .u32 0, .int .u32 0, .int .u32 0, .int .u32 0, .int .u32 0, .int .u32 0, .int .u32 0, .int .u32 0, .int .u32 0, .int .u32 0, .int .u32 0, .int .u32 0, .int .u32 0, .int .u32 0, .int .u32 0, .int .u32 0, .int .u32 0, .int .u32 0, .int .u32 0, .int .u32 0, .int .u32 0, .int .u32 0, .int .u32 0, .int .u32 0, .int .u32 0, .int .u32 0, .int .u32 0, .int .u32 0, .int .u32 0, .int .u32 0, .int .u32 0, .int .u32 0, .int .u32 0, .int .u32 0, .int .u32 0, .int .u32 0, .int .u32 0, .int .u32 0, .int .u32 0, .int .u32 0, .int .u32 0] 93)) #[.int .u32 0, .int .u32 0, .int .u32 0, .int .u32 0, .int .u32 0, .int .u32 0, .int .u32 0, .int .u32 0, .int .u32 0, .int .u32 0, .int .u32 0, .int .u32 0, .int .u32 0, .int .u32 0, .int .u32 0, .int .u32 0, .int .u32 0, .int .u32 0, .int .u32 0, .int .u32 0, .int .u32 0, .int .u32 0, .int .u32 0, .int .u32 0, .int .u32 0, .int .u32 0, .int .u32 0, .int .u32 0, .int .u32 0, .int .u32 0, .int .u32 0, .int .u32 0, .int .u32 0, .int .u32 0, .int .u32 0, .int .u32 0, .int .u32 0, .int .u32 0, .int .u32 0, .int .u32 0, .int .u32 0, .int .u32 0, .int .u32 0, .int .u32 0, .int .u32 0, .int .u32 0, .int .u32 0, .int .u32 0, .int .u32 0, .int .u32 0, .int .u32 0, .int .u32 0, .int .u32 0, .int .u32 0, .int .u32 0, .int .u32 0, .int .u32 0, .int .u32 0, .int .u32 0, .int .u32 0, .int .u32 0, .int .u32 0, .int .u32 0, .int .u32 0] 93
    simpa using this
  have sW := hs.to hbw
  have HW := Lib.hid hW
  have HL := Lib.hid hl
  clear hW hl hs
  go_enter Try.func66, Try.ntmps66
  go_wp2_with fail
  refine wp_at HW.out ?_
  clear HW
  generalize hN : w.heap.size = N at *
  have HN := Lib.hid hN
  clear hN
  go_loopw [8] (fun v wr => ∃ i : Nat, i ≤ 16 ∧ v = .int .i64 i ∧ Blk wr (N + 1) 93 (V32 (sched l i) ++ List.replicate (64 - i) (.int .u32 0)) ∧ RBut (some (N + 1)) W wr) (fun v _ => 16 - (intOf v).toNat)
  case atStart => exact ⟨0, by omega, rfl, by simpa [V32, sched] using b3, RBut.refl_ _ _⟩
  case round =>
    obtain ⟨i, hi, rfl, bi, hbi⟩ := hrel
    by_cases hlt : i < 16
    · have t1 : (i : Int) < 16 := by omega
      obtain ⟨p0, hp0⟩ : ∃ p0 : Nat, p0 = 4 * i := ⟨_, rfl⟩
      obtain ⟨p1, hp1⟩ : ∃ p1 : Nat, p1 = 4 * i + 1 := ⟨_, rfl⟩
      obtain ⟨p2, hp2⟩ : ∃ p2 : Nat, p2 = 4 * i + 2 := ⟨_, rfl⟩
      obtain ⟨p3, hp3⟩ : ∃ p3 : Nat, p3 = 4 * i + 3 := ⟨_, rfl⟩
      have hl := HL.out
      have cel : ∀ p, p < 64 → ∃ y : UInt8, l.getD p 0 = y ∧ ∀ w', RBut (some (N + 1)) wr.drew w' → w'.cell? ⟨b, o + p, none⟩ = some (.int .u8 (y.toNat : Int)) := by
        intro p hp
        refine ⟨l.getD p 0, rfl, fun w' hw' => ?_⟩
        have h1 := (sW.but hbi (fun h => by injection h; omega)).drew.but hw' (fun h => by injection h; omega)
        refine h1.cell ?_
        simp [B8, b8, List.getElem?_eq_getElem (show p < l.length by omega), List.getD]
      obtain ⟨y0, g0, c0⟩ := cel p0 (by omega)
      obtain ⟨y1, g1, c1⟩ := cel p1 (by omega)
      obtain ⟨y2, g2, c2⟩ := cel p2 (by omega)
      obtain ⟨y3, g3, c3⟩ := cel p3 (by omega)
      have hx : w4 l i = y0.toNat * 16777216 + y1.toNat * 65536 + y2.toNat * 256 + y3.toNat := by unfold w4; rw [← hp3, ← hp2, ← hp1, ← hp0, g0, g1, g2, g3]
      have HX := Lib.hid hx
      have l0 : (p0 : Int) < 64 := by omega
      have t64 : (i : Int) < 64 := by omega
      have l1 : (p1 : Int) < 64 := by omega
      have l2 : (p2 : Int) < 64 := by omega
      have l3 : (p3 : Int) < 64 := by omega
      have v0 : IntKind.i64.wrap (4 * (i : Int)) = (p0 : Int) := by rw [IntWalk.i64_in _ (by omega)]; omega
      have v1 : IntKind.i64.wrap ((p0 : Int) + 1) = (p1 : Int) := by rw [IntWalk.i64_in _ (by omega)]; omega
      have v2 : IntKind.i64.wrap ((p0 : Int) + 2) = (p2 : Int) := by rw [IntWalk.i64_in _ (by omega)]; omega
      have v3 : IntKind.i64.wrap ((p0 : Int) + 3) = (p3 : Int) := by rw [IntWalk.i64_in _ (by omega)]; omega
      have bi' : Blk wr.drew (N + 1) 93 (V32 (sched l i) ++ List.replicate (64 - i) (.int .u32 0)) := bi
      have hbi' := RBut.trans_ _ _ _ _ hbi (RBut.of_below (Below.refl _ _).drew)
      clear hl cel g0 g1 g2 g3 hx hp0 hp1 hp2 hp3 bi hbi
      go_wp2_with fail
      refine wp_region_C [(0, true), (1, true), (2, true), (3, true), (4, true), (5, true), (6, true), (7, true), (8, true), (9, true), (10, true), (11, true), (12, true), (13, true), (14, true), (15, true), (16, true), (17, true), (18, true), (19, true), (20, true), (21, true), (22, true), (23, true), (24, true), (25, true), (26, true), (27, false), (28, false), (29, false), (30, false), (31, false), (32, false), (33, false), (34, false), (35, false)] (RBut (some (N + 1))) (by kernel_rfl) (by kernel_rfl) (by kernel_rfl) (by decide) (RBut.refl_ _) (RBut.trans_ _) (by intro d v c a w h; cases d <;> exact h) ?_
      generalize wr.drew = wd at *
      have d3 := c3 wd (RBut.refl_ _ _)
      have BW := be_word y0 y1 y2 y3
      rw [← HX.out] at BW
      repeat (first | (refine wpC_quiet (v := ?_) rfl (by rfl) ?_ ?_; rotate_left; (· (intro w' hw'; go_simp; try with_reducible rfl)); simp only [Act.put, List.setIfInBounds_toArray, List.set_cons_zero, List.set_cons_succ]) | (refine wpC_val (v := ?_) (RBut.refl_ _) rfl (by rfl) ?_ ?_; rotate_left; (· (go_simp; try with_reducible rfl)); simp only [Act.put, List.setIfInBounds_toArray, List.set_cons_zero, List.set_cons_succ]) | (refine wpC_skip rfl (by rfl) ?_; simp only [Act.put, List.setIfInBounds_toArray, List.set_cons_zero, List.set_cons_succ]) | (refine wpC_skip' (RBut.refl_ _) rfl (by rfl) ?_; simp only [Act.put, List.setIfInBounds_toArray, List.set_cons_zero, List.set_cons_succ]))
      have ce : wd.cell? ⟨N + 1, i, none⟩ = some (.int .u32 0) := by rw [bi'.cell, List.getElem?_append_right (by rw [V32_len, sched_len]; omega), V32_len, sched_len, Nat.sub_self, List.getElem?_replicate, if_pos (by omega)]
      have fe := bi'.fz i
      (refine wpC_loud rfl (by rfl) ?_; intro K hK; go_simp)
      (refine hK.out _ _ (RBut.setC _ _ _ _) ?_; clear hK K; try simp only [Act.put, List.setIfInBounds_toArray, List.set_cons_zero, List.set_cons_succ])
      have bj := bi'.set_ i (.int .u32 ((w4 l i : Nat) : Int))
      rw [fill_set _ i (64 - i) _ _ (sched_len l i) (by omega)] at bj
      have hbj := RBut.trans_ _ _ _ _ hbi' (RBut.setC wd (N + 1) i (.int .u32 ((w4 l i : Nat) : Int)))
      refine wpC_nil ?_
      clear ce fe BW
      go_wp2
      go_roundw
      case rel => exact ⟨i + 1, by omega, by go_num, by rw [sched_lo l i hlt]; exact bj, hbj⟩
      case measure => simp [intOf]; omega
    · have t1 : ¬ (i : Int) < 16 := by omega
      obtain rfl : i = 16 := by omega
      go_wp2_with fail
      go_loopw [5] (fun v wr => ∃ i : Nat, 16 ≤ i ∧ i ≤ 64 ∧ v = .int .i64 i ∧ Blk wr (N + 1) 93 (V32 (sched l i) ++ List.replicate (64 - i) (.int .u32 0)) ∧ RBut (some (N + 1)) W wr) (fun v _ => 64 - (intOf v).toNat)
      case atStart => exact ⟨16, by omega, by omega, rfl, bi, hbi⟩
      case round =>
        clear bi hbi hi hlt t1
        obtain ⟨i, hi16, hi, rfl, bi, hbi⟩ := hrel
        by_cases hlt : i < 64
        · have t1 : (i : Int) < 64 := by omega
          go_wp2_with fail
          have hS : ∀ j, j < i → ∃ x, (sched l i).getD j 0 = x ∧ ∀ w', RBel wr.drew w' → w'.cell? ⟨N + 1, j, none⟩ = some (.int .u32 (x : Int)) := by
            intro j hj
            refine ⟨(sched l i).getD j 0, rfl, fun w' hw' => ?_⟩
            have hbk : Blk w' (N + 1) 93 (V32 (sched l i) ++ List.replicate (64 - i) (.int .u32 0)) := Blk.to (w := wr.drew) bi hw'
            rw [hbk.cell, List.getElem?_append_left (by rw [V32_len, sched_len]; omega)]
            exact V32_get (by rw [List.getD, List.getElem?_eq_getElem (by rw [sched_len]; omega)]; rfl)
          have hB : ∀ j, (sched l i).getD j 0 < 4294967296 := fun j => sched_lt l i j
          obtain ⟨q16, h16⟩ : ∃ q, q = i - 16 := ⟨_, rfl⟩
          obtain ⟨q15, h15⟩ : ∃ q, q = i - 15 := ⟨_, rfl⟩
          obtain ⟨q7, h7⟩ : ∃ q, q = i - 7 := ⟨_, rfl⟩
          obtain ⟨q2, h2⟩ : ∃ q, q = i - 2 := ⟨_, rfl⟩
          obtain ⟨x16, g16, c16⟩ := hS q16 (by omega)
          obtain ⟨x15, g15, c15⟩ := hS q15 (by omega)
          obtain ⟨x7, g7, c7⟩ := hS q7 (by omega)
          obtain ⟨x2, g2, c2⟩ := hS q2 (by omega)
          have k16 := hB q16
          have k15 := hB q15
          have k7 := hB q7
          have k2 := hB q2
          rw [g16] at k16
          rw [g15] at k15
          rw [g7] at k7
          rw [g2] at k2
          have hx : nextW (sched l i) i = (x16 + lsig0 x15 + x7 + lsig1 x2) % 4294967296 := by unfold nextW; rw [← h16, ← h15, ← h7, ← h2, g16, g15, g7, g2]
          have HX := Lib.hid hx
          have l16 : (q16 : Int) < 64 := by omega
          have l15 : (q15 : Int) < 64 := by omega
          have l7 : (q7 : Int) < 64 := by omega
          have l2 : (q2 : Int) < 64 := by omega
          have v16 : IntKind.i64.wrap ((i : Int) - 16) = (q16 : Int) := by rw [IntWalk.i64_in _ (by omega)]; omega
          have v15 : IntKind.i64.wrap ((i : Int) - 15) = (q15 : Int) := by rw [IntWalk.i64_in _ (by omega)]; omega
          have v7 : IntKind.i64.wrap ((i : Int) - 7) = (q7 : Int) := by rw [IntWalk.i64_in _ (by omega)]; omega
          have v2 : IntKind.i64.wrap ((i : Int) - 2) = (q2 : Int) := by rw [IntWalk.i64_in _ (by omega)]; omega
          have d16 : q16 ≠ i := by omega
          have d7 : q7 ≠ i := by omega
          have bi' : Blk wr.drew (N + 1) 93 (V32 (sched l i) ++ List.replicate (64 - i) (.int .u32 0)) := bi
          have hbi' := RBut.trans_ _ _ _ _ hbi (RBut.of_below (Below.refl _ _).drew)
          have e16 := c16 _ (RBel.refl_ _)
          have e7 := c7 _ (RBel.refl_ _)
          clear c16 c7 hS hB g16 g15 g7 g2 hx h16 h15 h7 h2 bi hbi
          refine wp_region_C [(0, true), (1, true), (2, true), (3, true), (4, true), (5, true), (6, true), (7, true), (8, false), (9, false)] RBel (by kernel_rfl) (by kernel_rfl) (by kernel_rfl) (by decide) RBel.refl_ RBel.trans_ (by intro d v c a w h; cases d <;> exact h) ?_
          generalize wr.drew = wd at *
          repeat (first | (refine wpC_quiet (v := ?_) rfl (by rfl) ?_ ?_; rotate_left; (· (intro w' hw'; go_simp; try with_reducible rfl)); simp only [Act.put, List.setIfInBounds_toArray, List.set_cons_zero, List.set_cons_succ]) | (refine wpC_val (v := ?_) (RBel.refl_) rfl (by rfl) ?_ ?_; rotate_left; (· (go_simp; try with_reducible rfl)); simp only [Act.put, List.setIfInBounds_toArray, List.set_cons_zero, List.set_cons_succ]) | (refine wpC_skip rfl (by rfl) ?_; simp only [Act.put, List.setIfInBounds_toArray, List.set_cons_zero, List.set_cons_succ]) | (refine wpC_skip' (RBel.refl_) rfl (by rfl) ?_; simp only [Act.put, List.setIfInBounds_toArray, List.set_cons_zero, List.set_cons_succ]))
          refine wpC_nil ?_
          clear c15 c2
          go_wp2_with fail
          have e16' : ∀ w', RCell (N + 1) i wd.drew w' → w'.cell? ⟨N + 1, q16, none⟩ = some (.int .u32 (x16 : Int)) := fun w' hw' => (hw'.2 q16 d16).trans e16
          have e7' : ∀ w', RCell (N + 1) i wd.drew w' → w'.cell? ⟨N + 1, q7, none⟩ = some (.int .u32 (x7 : Int)) := fun w' hw' => (hw'.2 q7 d7).trans e7
          have bi'' : Blk wd.drew (N + 1) 93 (V32 (sched l i) ++ List.replicate (64 - i) (.int .u32 0)) := bi'
          have hbi'' := RBut.trans_ _ _ _ _ hbi' (RBut.of_below (Below.refl _ _).drew)
          clear e16 e7 d16 d7 bi' hbi' v15 v2
          refine wp_region_C [(0, true), (1, true), (2, true), (3, true), (4, true), (5, true), (7, true), (10, true), (11, true), (14, true), (15, true), (16, true), (17, true), (19, true), (21, true), (24, true), (25, true), (6, false), (8, false), (9, true), (12, true), (13, true), (18, true), (20, false), (22, false), (23, false), (26, false), (27, false), (28, false), (29, false)] (RCell (N + 1) i) (by kernel_rfl) (by kernel_rfl) (by kernel_rfl) (by decide) (RCell.refl_ _ _) (RCell.trans_ _ _) (by intro d v c a w h; cases d <;> exact h) ?_
          generalize wd.drew = we at *
          have Y0 := lsig0_bits x15 k15
          have Y1 := lsig1_bits x2 k2
          have Y2 := sum4 x16 (lsig0 x15) x7 (lsig1 x2)
          rw [← HX.out] at Y2
          repeat (first | (refine wpC_quiet (v := ?_) rfl (by rfl) ?_ ?_; rotate_left; (· (intro w' hw'; go_simp; try with_reducible rfl)); simp only [Act.put, List.setIfInBounds_toArray, List.set_cons_zero, List.set_cons_succ]) | (refine wpC_val (v := ?_) (RCell.refl_ _ _) rfl (by rfl) ?_ ?_; rotate_left; (· (go_simp; try with_reducible rfl)); simp only [Act.put, List.setIfInBounds_toArray, List.set_cons_zero, List.set_cons_succ]) | (refine wpC_skip rfl (by rfl) ?_; simp only [Act.put, List.setIfInBounds_toArray, List.set_cons_zero, List.set_cons_succ]) | (refine wpC_skip' (RCell.refl_ _ _) rfl (by rfl) ?_; simp only [Act.put, List.setIfInBounds_toArray, List.set_cons_zero, List.set_cons_succ]))
          (refine wpC_loud rfl (by rfl) ?_; intro K hK; go_simp)
          refine (right_any x15 7 _ k15 (by omega) (by omega)).mono ?_
          rintro e w' ⟨rfl, rfl⟩
          (refine hK.out _ _ (RCell.refl_ _ _ _) ?_; clear hK K; try simp only [Act.put, List.setIfInBounds_toArray, List.set_cons_zero, List.set_cons_succ])
          (refine wpC_loud rfl (by rfl) ?_; intro K hK; go_simp)
          refine (right_any x15 18 _ k15 (by omega) (by omega)).mono ?_
          rintro e w' ⟨rfl, rfl⟩
          (refine hK.out _ _ (RCell.refl_ _ _ _) ?_; clear hK K; try simp only [Act.put, List.setIfInBounds_toArray, List.set_cons_zero, List.set_cons_succ])
          repeat (first | (refine wpC_quiet (v := ?_) rfl (by rfl) ?_ ?_; rotate_left; (· (intro w' hw'; go_simp; try with_reducible rfl)); simp only [Act.put, List.setIfInBounds_toArray, List.set_cons_zero, List.set_cons_succ]) | (refine wpC_val (v := ?_) (RCell.refl_ _ _) rfl (by rfl) ?_ ?_; rotate_left; (· (go_simp; try with_reducible rfl)); simp only [Act.put, List.setIfInBounds_toArray, List.set_cons_zero, List.set_cons_succ]) | (refine wpC_skip rfl (by rfl) ?_; simp only [Act.put, List.setIfInBounds_toArray, List.set_cons_zero, List.set_cons_succ]) | (refine wpC_skip' (RCell.refl_ _ _) rfl (by rfl) ?_; simp only [Act.put, List.setIfInBounds_toArray, List.set_cons_zero, List.set_cons_succ]))
          (refine wpC_loud rfl (by rfl) ?_; intro K hK; go_simp)
          refine (right_any x2 17 _ k2 (by omega) (by omega)).mono ?_
          rintro e w' ⟨rfl, rfl⟩
          (refine hK.out _ _ (RCell.refl_ _ _ _) ?_; clear hK K; try simp only [Act.put, List.setIfInBounds_toArray, List.set_cons_zero, List.set_cons_succ])
          (refine wpC_loud rfl (by rfl) ?_; intro K hK; go_simp)
          refine (right_any x2 19 _ k2 (by omega) (by omega)).mono ?_
          rintro e w' ⟨rfl, rfl⟩
          (refine hK.out _ _ (RCell.refl_ _ _ _) ?_; clear hK K; try simp only [Act.put, List.setIfInBounds_toArray, List.set_cons_zero, List.set_cons_succ])
          repeat (first | (refine wpC_quiet (v := ?_) rfl (by rfl) ?_ ?_; rotate_left; (· (intro w' hw'; go_simp; try with_reducible rfl)); simp only [Act.put, List.setIfInBounds_toArray, List.set_cons_zero, List.set_cons_succ]) | (refine wpC_val (v := ?_) (RCell.refl_ _ _) rfl (by rfl) ?_ ?_; rotate_left; (· (go_simp; try with_reducible rfl)); simp only [Act.put, List.setIfInBounds_toArray, List.set_cons_zero, List.set_cons_succ]) | (refine wpC_skip rfl (by rfl) ?_; simp only [Act.put, List.setIfInBounds_toArray, List.set_cons_zero, List.set_cons_succ]) | (refine wpC_skip' (RCell.refl_ _ _) rfl (by rfl) ?_; simp only [Act.put, List.setIfInBounds_toArray, List.set_cons_zero, List.set_cons_succ]))
          have ce : we.cell? ⟨N + 1, i, none⟩ = some (.int .u32 0) := by rw [bi''.cell, List.getElem?_append_right (by rw [V32_len, sched_len]; omega), V32_len, sched_len, Nat.sub_self, List.getElem?_replicate, if_pos (by omega)]
          have fe := bi''.fz i
          (refine wpC_loud rfl (by rfl) ?_; intro K hK; go_simp)
          (refine hK.out _ _ (RCell.set_ bi'' _) ?_; clear hK K; try simp only [Act.put, List.setIfInBounds_toArray, List.set_cons_zero, List.set_cons_succ])
          have bj := bi''.set_ i (.int .u32 ((nextW (sched l i) i : Nat) : Int))
          rw [fill_set _ i (64 - i) _ _ (sched_len l i) (by omega)] at bj
          have hbj := RBut.trans_ _ _ _ _ hbi'' (RBut.setC we (N + 1) i (.int .u32 ((nextW (sched l i) i : Nat) : Int)))
          refine wpC_nil ?_
          clear ce fe Y0 Y1 Y2
          go_wp2
          go_roundw
          case rel => exact ⟨i + 1, by omega, by omega, by go_num, by rw [sched_hi l i hi16]; exact bj, hbj⟩
          case measure => simp [intOf]; omega
        · have t1 : ¬ (i : Int) < 64 := by omega
          obtain rfl : i = 64 := by omega
          go_wp2_with (first
            | (refine wpl_load_blk rfl _ _ rfl _ rfl 93 (V32 (sched l 64)) _ (by simpa using bi) Try.underlying93 rfl (by rw [V32_len, sched_len]; kernel_rfl) ?_)
            | (refine wpl_store_blk rfl _ _ _ rfl N 93 (List.replicate 64 (.int .u32 0)) (V32 (sched l 64)) rfl rfl (b2.but hbi (fun h => by injection h; omega)) (by rw [V32_len, sched_len]; rfl) (by rw [V32_len, sched_len]; kernel_rfl) (V32_one _) ?_; intro w4 b4 hb4))
          exact bodyPost_ret (v := .agg (V32 (sched l 64)).toArray) (results_blk Try.results66 rfl b4 Try.underlying93 rfl (by rw [V32_len, sched_len]; kernel_rfl)) rfl ⟨rfl, by
            rw [HN.out]
            exact Below.trans hbw (Below.trans (below_but hbi (by omega) (HN.out ▸ hbw.size)) (below_but hb4 (Nat.le_refl _) (Nat.le_trans (HN.out ▸ hbw.size) hbi.size)))⟩
end Go.Proofs.Ytakebmpnbdlcoaa
/- Walks: sha.keys, sha.begun; laws of a round. -/
set_option linter.unusedSimpArgs false
set_option linter.unusedVariables false
namespace Go.Proofs.Ytakebmpnbdlcoaa
open Go.RowKit
set_option maxRecDepth 100000
theorem info_64 {l : List Nat} (h : l.length = 64) : (Try.prog.info? 93).map (·.size) = some (V32 l).length := by rw [V32_len, h]; kernel_rfl
theorem info_8 {l : List Nat} (h : l.length = 8) : (Try.prog.info? 89).map (·.size) = some (V32 l).length := by rw [V32_len, h]; kernel_rfl
theorem info_st {l : List Nat} (h : l.length = 8) : (Try.prog.info? 90).map (·.size) = some (V32 l).length := by rw [V32_len, h]; kernel_rfl
set_option maxRecDepth 100000 in
set_option maxHeartbeats 1000000 in
theorem keys_any (w : World) : Calls Try.prog 67 #[] w fun e w' => e = .returned (.agg (V32 shaKs).toArray) ∧ Below w.heap.size w w' := by
  go_enter Try.func67, Try.ntmps67
  go_wp2_with (refine wpl_store_new rfl _ _ _ rfl 93 _ (V32 shaKs) rfl (by kernel_rfl) (by kernel_rfl) (info_64 (by kernel_rfl)) (V32_one _) ?_; intro w4 b4 hb4)
  exact bodyPost_ret (v := .agg (V32 shaKs).toArray) (results_blk Try.results67 rfl b4 Try.underlying93 rfl (info_64 (by kernel_rfl))) rfl ⟨rfl, hb4⟩
set_option maxRecDepth 100000 in
theorem begun_any (w : World) : Calls Try.prog 61 #[] w fun e w' => e = .returned (.agg (V32 shaBegun.list).toArray) ∧ Below w.heap.size w w' := by
  go_enter Try.func61, Try.ntmps61
  go_wp2_with (refine wpl_store_new rfl _ _ _ rfl 90 _ (V32 shaBegun.list) rfl (by kernel_rfl) rfl (info_st rfl) (V32_one _) ?_; intro w4 b4 hb4)
  exact bodyPost_ret (v := .agg (V32 shaBegun.list).toArray) (results_blk Try.results61 rfl b4 Try.underlying90 rfl (info_st rfl)) rfl ⟨rfl, hb4⟩
theorem Blk.at_ {w : World} {p : Nat} {t : TypeId} {cs : List Value} (hb : Blk w p t cs) (k : Nat) {v : Value} (h : cs[k]? = some v) : ∀ w', RBel w w' → w'.cell? ⟨p, k, none⟩ = some v := fun w' hw' => by rw [(hb.to hw').cell, h]
theorem sum5 (a b c d e : Nat) : IntKind.u32.wrap (IntKind.u32.wrap (IntKind.u32.wrap (IntKind.u32.wrap ((a : Int) + (b : Int)) + (c : Int)) + (d : Int)) + (e : Int)) = (((a + b + c + d + e) % 4294967296 : Nat) : Int) := by
  simp only [IntKind.wrap_u32']
  omega
theorem sum2 (a b : Nat) : IntKind.u32.wrap ((a : Int) + (b : Int)) = (((a + b) % 4294967296 : Nat) : Int) := by
  simp only [IntKind.wrap_u32']
  omega
theorem max_u32 : IntKind.u32.max = 4294967295 := rfl
theorem xor_all32 (x : Nat) (h : x < 4294967296) : 4294967295 ^^^ x = 4294967295 - x := by
  have e := congrArg BitVec.toNat (BitVec.allOnes_xor (x := BitVec.ofNat 32 x))
  rw [BitVec.toNat_xor, BitVec.toNat_not, BitVec.toNat_allOnes, BitVec.toNat_ofNat] at e
  simp only [Nat.reducePow, Nat.add_one_sub_one] at e
  rw [Nat.mod_eq_of_lt h] at e
  exact e
theorem chs_bits (e f g : Nat) (he : e < 4294967296) (hf : f < 4294967296) (hg : g < 4294967296) : bits .xor .u32 (bits .and .u32 (e : Int) (f : Int)) (bits .and .u32 (bits .xor .u32 IntKind.u32.max (e : Int)) (g : Int)) = ((chs e f g : Nat) : Int) := by
  rw [max_u32, show (4294967295 : Int) = ((4294967295 : Nat) : Int) from rfl, u32_xor_nat _ _ (by decide) he, xor_all32 e he, u32_and_nat _ _ he hf, u32_and_nat _ _ (by omega) hg, u32_xor_nat _ _ (and_lt he) (and_lt (by omega))]
  rfl
theorem maj_bits (a b c : Nat) (ha : a < 4294967296) (hb : b < 4294967296) (hc : c < 4294967296) : bits .xor .u32 (bits .xor .u32 (bits .and .u32 (a : Int) (b : Int)) (bits .and .u32 (a : Int) (c : Int))) (bits .and .u32 (b : Int) (c : Int)) = ((maj a b c : Nat) : Int) := by
  rw [u32_and_nat _ _ ha hb, u32_and_nat _ _ ha hc, u32_and_nat _ _ hb hc, u32_xor_nat _ _ (and_lt ha) (and_lt ha), u32_xor_nat _ _ (xor_lt (and_lt ha) (and_lt ha)) (and_lt hb)]
  rfl
def S8.ok (s : S8) : Prop := s.a < 4294967296 ∧ s.b < 4294967296 ∧ s.c < 4294967296 ∧ s.d < 4294967296 ∧ s.e < 4294967296 ∧ s.f < 4294967296 ∧ s.g < 4294967296 ∧ s.h < 4294967296
theorem rnd_ok {s : S8} {k w : Nat} (h : s.ok) : (rnd s k w).ok := ⟨Nat.mod_lt _ (by decide), h.1, h.2.1, h.2.2.1, Nat.mod_lt _ (by decide), h.2.2.2.2.1, h.2.2.2.2.2.1, h.2.2.2.2.2.2.1⟩
theorem rnds_ok {s : S8} (ws : List Nat) (h : s.ok) : ∀ i, (rnds ws s i).ok
  | 0 => h
  | i + 1 => rnd_ok (rnds_ok ws h i)
theorem addS_ok (s t : S8) : (addS s t).ok := by
  unfold addS S8.ok
  refine ⟨?_, ?_, ?_, ?_, ?_, ?_, ?_, ?_⟩ <;> exact Nat.mod_lt _ (by decide)
theorem shaKs_lt : ∀ j, shaKs.getD j 0 < 4294967296 := by
  intro j
  have h : ∀ x ∈ shaKs, x < 4294967296 := by decide
  rcases Nat.lt_or_ge j shaKs.length with hj | hj
  · rw [List.getD, List.getElem?_eq_getElem hj]
    exact h _ (List.getElem_mem hj)
  · rw [List.getD, List.getElem?_eq_none hj]
    decide
theorem store8 {w : World} {p : Nat} {t : TypeId} {a b c d e f g h : Value} (hb : Blk w p t [a, b, c, d, e, f, g, h]) (v0 v1 v2 v3 v4 v5 v6 v7 : Value) :
    Blk ((((((((w.setCell ⟨p, 0, none⟩ v0).setCell ⟨p, 1, none⟩ v1).setCell ⟨p, 2, none⟩ v2).setCell ⟨p, 3, none⟩ v3).setCell ⟨p, 4, none⟩ v4).setCell ⟨p, 5, none⟩ v5).setCell ⟨p, 6, none⟩ v6).setCell ⟨p, 7, none⟩ v7) p t [v0, v1, v2, v3, v4, v5, v6, v7] ∧
    RBut (some p) w ((((((((w.setCell ⟨p, 0, none⟩ v0).setCell ⟨p, 1, none⟩ v1).setCell ⟨p, 2, none⟩ v2).setCell ⟨p, 3, none⟩ v3).setCell ⟨p, 4, none⟩ v4).setCell ⟨p, 5, none⟩ v5).setCell ⟨p, 6, none⟩ v6).setCell ⟨p, 7, none⟩ v7) :=
  ⟨(((((((hb.set_ 0 v0).set_ 1 v1).set_ 2 v2).set_ 3 v3).set_ 4 v4).set_ 5 v5).set_ 6 v6).set_ 7 v7,
    RBut.trans_ _ _ _ _ (RBut.trans_ _ _ _ _ (RBut.trans_ _ _ _ _ (RBut.trans_ _ _ _ _ (RBut.trans_ _ _ _ _ (RBut.trans_ _ _ _ _ (RBut.trans_ _ _ _ _ (RBut.setC _ _ _ _) (RBut.setC _ _ _ _)) (RBut.setC _ _ _ _)) (RBut.setC _ _ _ _)) (RBut.setC _ _ _ _)) (RBut.setC _ _ _ _)) (RBut.setC _ _ _ _)) (RBut.setC _ _ _ _)⟩
/-- the sums of the first j words, then the words as they are -/
def mix (t s : S8) (j : Nat) : List Nat := (addS t s).list.take j ++ t.list.drop j
theorem mix_at (t s : S8) (j : Nat) (h : j < 8) : ∃ x y, (mix t s j)[j]? = some x ∧ s.list[j]? = some y ∧ (V32 (mix t s j)).set j (.int .u32 (((x + y) % 4294967296 : Nat) : Int)) = V32 (mix t s (j + 1)) := by
  match j, h with
  | 0, _ => exact ⟨_, _, rfl, rfl, rfl⟩
  | 1, _ => exact ⟨_, _, rfl, rfl, rfl⟩
  | 2, _ => exact ⟨_, _, rfl, rfl, rfl⟩
  | 3, _ => exact ⟨_, _, rfl, rfl, rfl⟩
  | 4, _ => exact ⟨_, _, rfl, rfl, rfl⟩
  | 5, _ => exact ⟨_, _, rfl, rfl, rfl⟩
  | 6, _ => exact ⟨_, _, rfl, rfl, rfl⟩
  | 7, _ => exact ⟨_, _, rfl, rfl, rfl⟩
end Go.Proofs.Ytakebmpnbdlcoaa
