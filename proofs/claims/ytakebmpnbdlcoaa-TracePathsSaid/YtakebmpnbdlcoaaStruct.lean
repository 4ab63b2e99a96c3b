/- Structs that fill a block of their own: a field is read, a field is stored, a value is built; two are held against each other. -/
import Derived.Test.YtakebmpnbdlcoaaArr
import Derived.Laws.StructEq
import Derived.Laws.Tables
import Derived.Deep.Cut
set_option linter.unusedSimpArgs false
set_option linter.unusedVariables false
namespace Go.Proofs.Ytakebmpnbdlcoaa
open Go.RowKit
set_option maxRecDepth 100000

section
variable {P : Program} {ops : Array Oper} {Q : Exit → Act → World → Prop} {R : World → World → Prop}
/-- what is taken first, behind which two operations can come up, in either order -/
def wpT (P : Program) (ops : Array Oper) (Q : Exit → Act → World → Prop) (R : World → World → Prop) (l1 l2 : List (Nat × Bool)) : List Nat → Act → World → Prop
  | [], a, w => wpC P ops Q R l1 a w ∧ wpC P ops Q R l2 a w
  | i :: rest, a, w => ∃ o v, ops[i]? = some o ∧ YieldsIf P ops (R w) o v a ∧ wpT P ops Q R l1 l2 rest (a.put o.dst v) w
def canonTwo (ops : Array Oper) (i j : Nat) (r1 r2 : List (Nat × Bool)) : List Nat → Array Bool → Bool
  | [], listed => Region.ready .any ops listed == [i, j] && canonOk ops r1 (listed.setIfInBounds i true) && canonOk ops r2 (listed.setIfInBounds j true)
  | k :: rest, listed => Region.free .any ops listed k && (Region.ready .any ops listed).contains k && canonTwo ops i j r1 r2 rest (listed.setIfInBounds k true)
theorem wpAnyH_of_T (hrefl : ∀ w, R w w) (htr : ∀ a b c, R a b → R b c → R a c) (hs : Region.noSelect ops = true) (hQ : ∀ (d : Option Tmp) (v : Value) c a w, Q (.panic c) (a.put d v) w → Q (.panic c) a w) (i j : Nat) (r1 r2 : List (Nat × Bool)) :
    ∀ (l : List Nat) (fuel : Nat) (listed : Array Bool) (a : Act) (w : World) (S : World → Prop), canonTwo ops i j r1 r2 l listed = true → l.length + 1 + r1.length ≤ fuel → l.length + 1 + r2.length ≤ fuel → (∀ w', R w w' → S w') → wpT P ops Q R ((i, false) :: r1) ((j, false) :: r2) l a w →
      wpAnyH P .any ops Q S fuel listed a w
  | [], fuel, listed, a, w, S, hok, hf1, hf2, hS, h => by
    obtain ⟨f, rfl⟩ : ∃ f, fuel = f + 1 := ⟨fuel - 1, by simp at hf1; omega⟩
    simp only [canonTwo, Bool.and_eq_true, beq_iff_eq] at hok
    obtain ⟨⟨hr, h1⟩, h2⟩ := hok
    refine wpAnyH_all hr (by simp) fun m hm => ?_
    rcases List.mem_cons.1 hm with rfl | hm
    · exact wpOp_mono (fun a' w' h' => ⟨hS w' h'.1, wpAnyH_of_C hrefl htr hs hQ r1 f _ a' w' S h1 (by simp at hf1; omega) (fun w'' h'' => hS w'' (htr _ _ _ h'.1 h'')) h'.2⟩) h.1
    · obtain rfl : m = j := by simpa using hm
      exact wpOp_mono (fun a' w' h' => ⟨hS w' h'.1, wpAnyH_of_C hrefl htr hs hQ r2 f _ a' w' S h2 (by simp at hf2; omega) (fun w'' h'' => hS w'' (htr _ _ _ h'.1 h'')) h'.2⟩) h.2
  | k :: rest, fuel, listed, a, w, S, hok, hf1, hf2, hS, h => by
    obtain ⟨f, rfl⟩ : ∃ f, fuel = f + 1 := ⟨fuel - 1, by simp at hf1; omega⟩
    simp only [canonTwo, Bool.and_eq_true] at hok
    obtain ⟨o, v, ho, hy, hr⟩ := h
    have ih := wpAnyH_of_T hrefl htr hs hQ i j r1 r2 rest f (listed.setIfInBounds k true) (a.put o.dst v) w (fun w' => S w' ∧ R w w') hok.2 (by simp at hf1; omega) (by simp at hf2; omega) (fun w' h' => ⟨hS w' h', h'⟩) hr
    refine wpAnyH_weaken (fun w' h' => h'.1) _ _ _ _ (wpAnyH_take (oi := o) (v := v) ho hs hok.1.1 hok.1.2 (fun c a w => hQ o.dst v c a w) ?_ ⟨hS w (hrefl w), hrefl w⟩ ih)
    rcases hy with ⟨h1, h2⟩ | h1
    · exact .inl ⟨h1, fun w' h' => h2 w' h'.2⟩
    · exact .inr h1
theorem wp_region_T {id : Nat} {a : Act} {w : World} (l : List Nat) (i j : Nat) (r1 r2 : List (Nat × Bool)) (R : World → World → Prop) (hm : P.follows .mixedOrders = true) (hs : Region.noSelect ops = true) (hok : canonTwo ops i j r1 r2 l (Array.replicate ops.size false) = true) (hl1 : l.length + 1 + r1.length ≤ ops.size) (hl2 : l.length + 1 + r2.length ≤ ops.size)
    (hrefl : ∀ w, R w w) (htr : ∀ a b c, R a b → R b c → R a c) (hQ : ∀ (d : Option Tmp) (v : Value) c a w, Q (.panic c) (a.put d v) w → Q (.panic c) a w)
    (h : wpT P ops Q R ((i, false) :: r1) ((j, false) :: r2) l a w.drew) : (Code.region id ops true).wp P Q a w :=
  wp_region_held (S := fun _ => True) hm (wpAnyH_of_T hrefl htr hs hQ i j r1 r2 l _ _ _ _ _ hok hl1 hl2 (fun _ _ => trivial) h)
theorem wpT_quiet {l1 l2 : List (Nat × Bool)} {i : Nat} {rest : List Nat} {o : Oper} {v : Value} {a : Act} {w : World} (ho : nth ops.toList i = some o) (hw : Region.wanted o (yielded ops a.tmps) = true)
    (hy : ∀ w', R w w' → (execOp a.eval o).run P w' = .ok (.value v) w') (h : wpT P ops Q R l1 l2 rest (a.put o.dst v) w) : wpT P ops Q R l1 l2 (i :: rest) a w := ⟨o, v, nth_ops ho, .inl ⟨hw, hy⟩, h⟩
theorem wpT_skip {l1 l2 : List (Nat × Bool)} {i : Nat} {rest : List Nat} {o : Oper} {a : Act} {w : World} (ho : nth ops.toList i = some o) (hw : Region.wanted o (yielded ops a.tmps) = false)
    (h : wpT P ops Q R l1 l2 rest (a.put o.dst undef) w) : wpT P ops Q R l1 l2 (i :: rest) a w := ⟨o, undef, nth_ops ho, .inr ⟨hw, rfl⟩, h⟩
theorem wpT_load {l1 l2 : List (Nat × Bool)} {i : Nat} {rest : List Nat} {o : Oper} {a : Act} {w : World} (ho : nth ops.toList i = some o) (hw : Region.wanted o (yielded ops a.tmps) = true) (ty : TypeId) (x : Operand) (hop : o.op = .load ty x)
    (b off : Nat) (hx : a.eval x = .pointer (some ⟨b, off, none⟩)) (cs : List Value) (d : TypeDesc) (hS : ∀ w', R w w' → w'.rangeAt b off cs) (hu : P.underlying ty = some d) (hd : d.isRow = true) (hi : (P.info? ty).map (·.size) = some cs.length)
    (h : wpT P ops Q R l1 l2 rest (a.put o.dst (.agg cs.toArray)) w) : wpT P ops Q R l1 l2 (i :: rest) a w :=
  ⟨o, _, nth_ops ho, yieldsIf_load_mid hw ty x hop b off hx cs d hS hu hd hi, h⟩
theorem wpT_nil {l1 l2 : List (Nat × Bool)} {a : Act} {w : World} (h1 : wpC P ops Q R l1 a w) (h2 : wpC P ops Q R l2 a w) : wpT P ops Q R l1 l2 [] a w := ⟨h1, h2⟩
end
/-- some cells from place o on are others -/
def put_ (cs : List Value) (o : Nat) (new : List Value) : List Value := cs.take o ++ new ++ cs.drop (o + new.length)
theorem put_mid (a b c new : List Value) (h : new.length = b.length) : put_ (a ++ b ++ c) a.length new = a ++ new ++ c := by
  unfold put_
  rw [h, show a ++ b ++ c = a ++ (b ++ c) from List.append_assoc _ _ _, List.take_left' rfl, ← List.append_assoc, List.drop_left' (by simp)]
theorem put_len (cs new : List Value) (o : Nat) (h : o + new.length ≤ cs.length) : (put_ cs o new).length = cs.length := by
  unfold put_
  simp
  omega
theorem put_one (cs : List Value) (o : Nat) (v : Value) (h : o < cs.length) : put_ cs o [v] = cs.set o v := by
  unfold put_
  rw [List.set_eq_take_append_cons_drop, if_pos h]
  simp
theorem put_all (cs new : List Value) (h : new.length = cs.length) : put_ cs 0 new = new := by
  unfold put_
  simp [h]

section
variable {w w' : World} {b : Nat} {t : TypeId} {cs : List Value}
/-- some of a block's cells, as they lie -/
theorem Blk.sub (h : Blk w b t cs) (o : Nat) (new : List Value) (hs : (cs.drop o).take new.length = new) : w.rangeAt b o new := fun j v hv => by
  have hj := (List.getElem?_eq_some_iff.1 hv).1
  rw [← hs, List.getElem?_take, if_pos hj, List.getElem?_drop] at hv
  rw [h.cell, hv]
theorem setCells_blk_at (a new old c : List Value) (w : World) (h : Blk w b t (a ++ old ++ c)) (hl : old.length = new.length) : Blk (w.setCells b a.length new) b t (a ++ new ++ c) := by
  induction new generalizing a w old with
  | nil =>
    obtain rfl : old = [] := List.eq_nil_of_length_eq_zero hl
    exact h
  | cons v vs ih =>
    rcases old with _ | ⟨o, old⟩
    · simp at hl
    · have h1 := h.set_ a.length v
      have e1 : (a ++ o :: old ++ c).set a.length v = (a ++ [v]) ++ old ++ c := by simp
      rw [e1] at h1
      have := ih (a ++ [v]) old _ h1 (by simpa using hl)
      simp only [List.append_assoc, List.cons_append, List.nil_append, List.length_append, List.length_cons, List.length_nil, Nat.zero_add] at this ⊢
      exact this
theorem setCells_put (h : Blk w b t cs) (o : Nat) (new : List Value) (hl : o + new.length ≤ cs.length) : Blk (w.setCells b o new) b t (put_ cs o new) := by
  have e1 : cs = cs.take o ++ (cs.drop o).take new.length ++ cs.drop (o + new.length) := by
    have e2 : cs.drop (o + new.length) = (cs.drop o).drop new.length := by rw [List.drop_drop]
    rw [e2, List.append_assoc, List.take_append_drop, List.take_append_drop]
  have hlen : (cs.take o).length = o := by rw [List.length_take]; omega
  rw [e1] at h
  have := setCells_blk_at (cs.take o) new ((cs.drop o).take new.length) (cs.drop (o + new.length)) w h (by simp; omega)
  rw [hlen] at this
  exact this
theorem Blk.there_at (h : Blk w b t cs) (o n : Nat) (hl : o + n ≤ cs.length) : w.there b o n := fun j hj => ⟨by rw [h.cell, List.getElem?_eq_getElem (by omega)]; rfl, h.fz _⟩
end

section
variable {P : Program}
theorem run_storeVar_val (w : World) (b o : Nat) (ty : TypeId) (v : Value) (new : List Value) (hv : v.cells = new.toArray) (ht : w.there b o new.length) (hi : (P.info? ty).map (·.size) = some new.length) (h1 : ∀ u ∈ new, u.oneCell' = true) :
    (storeVar ty ⟨b, o, none⟩ v).run P w = .ok () (w.setCells b o new) := by
  have h2 := run_storeVar_mid (P := P) w b o ty new.toArray (by simpa using ht) (by simpa using hi) (all_oneCell_toArray h1)
  have e : storeVar ty ⟨b, o, none⟩ v = storeVar ty ⟨b, o, none⟩ (.agg new.toArray) := by
    unfold storeVar
    rw [hv]
    rfl
  rw [e]
  exact h2
/-- a value is stored into a field (or the whole) of a block known whole -/
theorem wp_store_fld {op : Oper} {a : Act} {w : World} {K : Act → World → Prop} {Q : Exit → Act → World → Prop} (ty : TypeId) (x y : Operand) (ho : op.op = .store ty x y)
    (b o : Nat) (t : TypeId) (cs new : List Value) (hx : a.eval x = .pointer (some ⟨b, o, none⟩)) (v : Value) (hy : a.eval y = v) (hv : v.cells = new.toArray) (hb : Blk w b t cs) (hl : o + new.length ≤ cs.length)
    (hi : (P.info? ty).map (·.size) = some new.length) (h1 : ∀ u ∈ new, u.oneCell' = true)
    (h : ∀ w', Blk w' b t (put_ cs o new) → RBut (some b) w w' → K (a.put op.dst undef) w') : op.wp P a w K Q := by
  subst hy
  unfold Oper.wp execOp
  simp only [ho, hx, Instr.storeAt, Instr.sureAddr, Sem.run_bind, Sem.run_pure, Result.andThen_ok, run_storeVar_val w b o ty (a.eval y) new hv (hb.there_at o _ hl) hi h1]
  exact h _ (setCells_put hb o new hl) (setCells_but new o w)
theorem wpl_store_fld {ops : Array Oper} {rest : List Oper} {op : Oper} {a : Act} {w : World} {Q : Exit → Act → World → Prop} (hw : Region.wanted op (yielded ops a.tmps) = true) (ty : TypeId) (x y : Operand) (ho : op.op = .store ty x y)
    (b o : Nat) (t : TypeId) (cs new : List Value) (hx : a.eval x = .pointer (some ⟨b, o, none⟩)) (v : Value) (hy : a.eval y = v) (hv : v.cells = new.toArray) (hb : Blk w b t cs) (hl : o + new.length ≤ cs.length)
    (hi : (P.info? ty).map (·.size) = some new.length) (h1 : ∀ u ∈ new, u.oneCell' = true)
    (h : ∀ w', Blk w' b t (put_ cs o new) → RBut (some b) w w' → wpList P ops Q rest (a.put op.dst undef) w') : wpList P ops Q (op :: rest) a w :=
  wpList_wanted hw (wp_store_fld ty x y ho b o t cs new hx v hy hv hb hl hi h1 h)
/-- a field of several cells is read -/
theorem wpl_load_fld {ops : Array Oper} {rest : List Oper} {op : Oper} {a : Act} {w : World} {Q : Exit → Act → World → Prop} (hw : Region.wanted op (yielded ops a.tmps) = true) (ty : TypeId) (x : Operand) (ho : op.op = .load ty x)
    (b o : Nat) (hx : a.eval x = .pointer (some ⟨b, o, none⟩)) (cs : List Value) (d : TypeDesc) (hc : w.rangeAt b o cs)
    (hu : P.underlying ty = some d) (hd : d.isRow = true) (hi : (P.info? ty).map (·.size) = some cs.length)
    (h : wpList P ops Q rest (a.put op.dst (.agg cs.toArray)) w) : wpList P ops Q (op :: rest) a w :=
  wpList_wanted hw (wp_load_mid ty x ho b o hx cs d hc hu hd hi h)
/-- a value is built of parts -/
theorem wpl_build {ops : Array Oper} {rest : List Oper} {o : Oper} {a : Act} {w : World} {Q : Exit → Act → World → Prop} (hw : Region.wanted o (yielded ops a.tmps) = true) (t : TypeId) (parts : Array (Nat × Operand)) (ho : o.op = .build t parts)
    (cells : Array Value) (hf : P.built t (parts.toList.map fun x => (x.1, a.eval x.2)) = some cells)
    (h : wpList P ops Q rest (a.put o.dst (.agg cells)) w) : wpList P ops Q (o :: rest) a w := by
  refine wpList_wanted hw ?_
  unfold Oper.wp execOp
  simp only [ho, run_build w t _ cells (by rw [Array.toList_map]; exact hf), Sem.run_bind, Result.andThen_ok, Sem.run_pure]
  exact h
/-- what a built value's parts do to the zero value -/
theorem fill_nil (place : Nat → Option (Nat × Nat)) (cs : Array Value) : Instr.fill place cs [] = some cs := rfl
theorem zip_put (cs new : List Value) (o : Nat) (h : o + new.length ≤ cs.length) : (new.toArray.zipIdx.foldl (fun (cs : Array Value) (x : Value × Nat) => cs.setIfInBounds (o + x.2) x.1) cs.toArray) = (put_ cs o new).toArray := by
  have key : ∀ (new : List Value) (k o : Nat) (cs : List Value), o + k + new.length ≤ cs.length → ((new.zipIdx k).foldl (fun (cs : Array Value) (x : Value × Nat) => cs.setIfInBounds (o + x.2) x.1) cs.toArray) = (put_ cs (o + k) new).toArray := by
    intro new
    induction new with
    | nil => intro k o cs h; simp [put_]
    | cons v vs ih =>
      intro k o cs h
      simp only [List.zipIdx_cons, List.foldl_cons, List.setIfInBounds_toArray]
      rw [ih (k + 1) o (cs.set (o + k) v) (by simp at h ⊢; omega)]
      congr 1
      have hk : o + k < cs.length := by simp at h; omega
      unfold put_
      rw [List.take_set, List.drop_set, if_pos (by omega)]
      rw [show o + (k + 1) = o + k + 1 from by omega, List.take_add_one, List.getElem?_eq_getElem hk]
      have e2 : (List.take (o + k) cs).length = o + k := by rw [List.length_take]; omega
      rw [List.set_append_right _ _ (by rw [e2]; exact Nat.le_refl _), e2]
      simp only [Nat.sub_self, Option.toList_some, List.set_cons_zero, List.append_assoc, List.cons_append, List.nil_append, List.length_cons]
      rw [show o + k + 1 + vs.length = o + k + (vs.length + 1) from by omega]
  have e := key new 0 o cs (by simpa using h)
  simp only [Nat.add_zero] at e
  rw [← e]
  rw [← Array.foldl_toList, Array.toList_zipIdx]
theorem fill_cons (place : Nat → Option (Nat × Nat)) (cs new : List Value) (i o : Nat) (v : Value) (rest : List (Nat × Value)) (hp : place i = some (o, new.length)) (hv : v.cells = new.toArray) (hl : o + new.length ≤ cs.length) :
    Instr.fill place cs.toArray ((i, v) :: rest) = Instr.fill place (put_ cs o new).toArray rest := by
  conv => lhs; unfold Instr.fill
  rw [hp, hv]
  dsimp only
  rw [if_neg (by simp; omega)]
  congr 1
  exact zip_put cs new o hl
theorem built_struct {t : TypeId} {fs : Array Field} {z : Value} {places : List (Nat × Nat)} (hz : (P.info? t).bind (·.zero) = some z) (hu : P.underlying t = some (.struct fs)) (hp : fs.toList.mapM (fun f => (P.info? f.type).map fun i => (f.offset, i.size)) = some places) (parts : List (Nat × Value)) :
    P.built t parts = Instr.fill (places.toArray[·]?) z.cells parts := by
  unfold Program.built
  cases hi : P.info? t with
  | none => rw [hi] at hz; cases hz
  | some it =>
    rw [hi] at hz
    simp only [Option.bind_some] at hz
    simp only [hu, hz, hp]
/-- a value is built in a drawn region, where nothing else can come up -/
theorem wpC_build {ops : Array Oper} {Q : Exit → Act → World → Prop} {R : World → World → Prop} {i : Nat} {rest : List (Nat × Bool)} {o : Oper} {a : Act} {w : World} (hrefl : ∀ w, R w w) (ho : nth ops.toList i = some o) (hw : Region.wanted o (yielded ops a.tmps) = true) (t : TypeId) (parts : Array (Nat × Operand)) (hop : o.op = .build t parts)
    (cells : Array Value) (hf : P.built t (parts.toList.map fun x => (x.1, a.eval x.2)) = some cells) (h : wpC P ops Q R rest (a.put o.dst (.agg cells)) w) : wpC P ops Q R ((i, false) :: rest) a w := by
  refine wpC_val (v := .agg cells) hrefl ho hw ?_ h
  unfold execOp
  simp only [hop, run_build w t _ cells (by rw [Array.toList_map]; exact hf), Sem.run_bind, Result.andThen_ok, Sem.run_pure]
/-- a value is built in a drawn region, as soon as it may be -/
theorem wpC_build_t {ops : Array Oper} {Q : Exit → Act → World → Prop} {R : World → World → Prop} {i : Nat} {rest : List (Nat × Bool)} {o : Oper} {a : Act} {w : World} (ho : nth ops.toList i = some o) (hw : Region.wanted o (yielded ops a.tmps) = true) (t : TypeId) (parts : Array (Nat × Operand)) (hop : o.op = .build t parts)
    (cells : Array Value) (hf : P.built t (parts.toList.map fun x => (x.1, a.eval x.2)) = some cells) (h : wpC P ops Q R rest (a.put o.dst (.agg cells)) w) : wpC P ops Q R ((i, true) :: rest) a w := by
  refine wpC_quiet (v := .agg cells) ho hw (fun w' _ => ?_) h
  unfold execOp
  simp only [hop, run_build w' t _ cells (by rw [Array.toList_map]; exact hf), Sem.run_bind, Result.andThen_ok, Sem.run_pure]
/-- a field (or the whole) is stored in a drawn region -/
theorem wpC_store_fld {ops : Array Oper} {Q : Exit → Act → World → Prop} {R : World → World → Prop} {i : Nat} {rest : List (Nat × Bool)} {op : Oper} {a : Act} {w : World} (hn : nth ops.toList i = some op) (hw : Region.wanted op (yielded ops a.tmps) = true) (ty : TypeId) (x y : Operand) (ho : op.op = .store ty x y)
    (b o : Nat) (t : TypeId) (cs new : List Value) (hx : a.eval x = .pointer (some ⟨b, o, none⟩)) (v : Value) (hy : a.eval y = v) (hv : v.cells = new.toArray) (hb : Blk w b t cs) (hl : o + new.length ≤ cs.length)
    (hi : (P.info? ty).map (·.size) = some new.length) (h1 : ∀ u ∈ new, u.oneCell' = true) (hR : ∀ w', RBut (some b) w w' → R w w')
    (h : ∀ w', Blk w' b t (put_ cs o new) → RBut (some b) w w' → wpC P ops Q R rest (a.put op.dst undef) w') : wpC P ops Q R ((i, false) :: rest) a w := by
  unfold wpC wpOp
  simp only [nth_ops hn, hw, if_true]
  refine .inl ?_
  exact wp_store_fld ty x y ho b o t cs new hx v hy hv hb hl hi h1 fun w' h2 h3 => ⟨hR w' h3, h w' h2 h3⟩
theorem results_blk2 {fn : Func} {p q : Tmp} {ty : TypeId} (hr : fn.results = #[.cell p ty, .tmp q]) {tmps : Array Value} {w : World} {b : Nat} {t : TypeId} {cs : List Value} {d : TypeDesc} {v : Value} (hp : tmps.getD p undef = .pointer (some ⟨b, 0, none⟩)) (hv : tmps.getD q undef = v) (hc : Blk w b t cs)
    (hu : P.underlying ty = some d) (hd : d.isRow = true) (hi : (P.info? ty).map (·.size) = some cs.length) : (results fn tmps).run P w = .ok (.tuple #[.agg cs.toArray, v]) w := by
  have hp' : tmps[p]?.getD undef = .pointer (some ⟨b, 0, none⟩) := by simpa using hp
  have hv' : tmps[q]?.getD undef = v := by simpa using hv
  simp only [results, hr]
  simp [Sem.run_bind, hp', hv', asAddr, run_loadVar_mid w b 0 ty cs d hc.range hu hd hi]
end
end Go.Proofs.Ytakebmpnbdlcoaa
