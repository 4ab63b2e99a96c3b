/- The texts of this claim, part B: words, plain laws, walks. -/
import Derived.Test.YtdopgooglicaiaaPartA
import Derived.Laws.StructEq
import Derived.Laws.Tables
import Derived.Deep.Cut
import Derived.Test.YtdopgooglicaiaaProg
import Derived.IntWalk
/- Structs that fill a block of their own: a field is read, a field is stored, a value is built; two are held against each other. -/
set_option linter.unusedSimpArgs false
set_option linter.unusedVariables false
namespace Go.Proofs.Ytdopgooglicaiaa
open Go.RowKit
set_option maxRecDepth 100000

section
variable {P : Program} {ops : Array Oper} {Q : Exit → Act → World → Prop} {R : World → World → Prop}
/-- what is taken first, behind which two operations can come up, in either order -/
def wpT (P : Program) (ops : Array Oper) (Q : Exit → Act → World → Prop) (R : World → World → Prop) (l1 l2 : List (Nat × Bool)) : List Nat → Act → World → Prop
  | [], a, w => wpC P ops Q R l1 a w ∧ wpC P ops Q R l2 a w
  | i :: rest, a, w => ∃ o v, ops[i]? = some o ∧ YieldsIf P ops (R w) o v a ∧ wpT P ops Q R l1 l2 rest (a.put o.dst v) w
def canonTwo (ops : Array Oper) (i j : Nat) (r1 r2 : List (Nat × Bool)) : List Nat → Array Bool → Bool
  | [], listed => Region.ready .any ops listed == [i, j] && canonOk ops r1 (listed.setIfInBounds i true) && canonOk ops r2 (listed.setIfInBounds j true)
  | k :: rest, listed => Region.free .any ops listed k && (Region.ready .any ops listed).contains k && canonTwo ops i j r1 r2 rest (listed.setIfInBounds k true)
theorem wpAnyH_of_T (hrefl : ∀ w, R w w) (htr : ∀ a b c, R a b → R b c → R a c) (hs : Region.noSelect ops = true) (hQ : ∀ (d : Option Tmp) (v : Value) c a w, Q (.panic c) (a.put d v) w → Q (.panic c) a w) (i j : Nat) (r1 r2 : List (Nat × Bool)) :
    ∀ (l : List Nat) (fuel : Nat) (listed : Array Bool) (a : Act) (w : World) (S : World → Prop), canonTwo ops i j r1 r2 l listed = true → l.length + 1 + r1.length ≤ fuel → l.length + 1 + r2.length ≤ fuel → (∀ w', R w w' → S w') → wpT P ops Q R ((i, false) :: r1) ((j, false) :: r2) l a w →
      wpAnyH P .any ops Q S fuel listed a w
  | [], fuel, listed, a, w, S, hok, hf1, hf2, hS, h => by
    obtain ⟨f, rfl⟩ : ∃ f, fuel = f + 1 := ⟨fuel - 1, by simp at hf1; omega⟩
    simp only [canonTwo, Bool.and_eq_true, beq_iff_eq] at hok
    obtain ⟨⟨hr, h1⟩, h2⟩ := hok
    refine wpAnyH_all hr (by simp) fun m hm => ?_
    rcases List.mem_cons.1 hm with rfl | hm
    · exact wpOp_mono (fun a' w' h' => ⟨hS w' h'.1, wpAnyH_of_C hrefl htr hs hQ r1 f _ a' w' S h1 (by simp at hf1; omega) (fun w'' h'' => hS w'' (htr _ _ _ h'.1 h'')) h'.2⟩) h.1
    · obtain rfl : m = j := by simpa using hm
      exact wpOp_mono (fun a' w' h' => ⟨hS w' h'.1, wpAnyH_of_C hrefl htr hs hQ r2 f _ a' w' S h2 (by simp at hf2; omega) (fun w'' h'' => hS w'' (htr _ _ _ h'.1 h'')) h'.2⟩) h.2
  | k :: rest, fuel, listed, a, w, S, hok, hf1, hf2, hS, h => by
    obtain ⟨f, rfl⟩ : ∃ f, fuel = f + 1 := ⟨fuel - 1, by simp at hf1; omega⟩
    simp only [canonTwo, Bool.and_eq_true] at hok
    obtain ⟨o, v, ho, hy, hr⟩ := h
    have ih := wpAnyH_of_T hrefl htr hs hQ i j r1 r2 rest f (listed.setIfInBounds k true) (a.put o.dst v) w (fun w' => S w' ∧ R w w') hok.2 (by simp at hf1; omega) (by simp at hf2; omega) (fun w' h' => ⟨hS w' h', h'⟩) hr
    refine wpAnyH_weaken (fun w' h' => h'.1) _ _ _ _ (wpAnyH_take (oi := o) (v := v) ho hs hok.1.1 hok.1.2 (fun c a w => hQ o.dst v c a w) ?_ ⟨hS w (hrefl w), hrefl w⟩ ih)
    rcases hy with ⟨h1, h2⟩ | h1
    · exact .inl ⟨h1, fun w' h' => h2 w' h'.2⟩
    · exact .inr h1
theorem wp_region_T {id : Nat} {a : Act} {w : World} (l : List Nat) (i j : Nat) (r1 r2 : List (Nat × Bool)) (R : World → World → Prop) (hm : P.follows .mixedOrders = true) (hs : Region.noSelect ops = true) (hok : canonTwo ops i j r1 r2 l (Array.replicate ops.size false) = true) (hl1 : l.length + 1 + r1.length ≤ ops.size) (hl2 : l.length + 1 + r2.length ≤ ops.size)
    (hrefl : ∀ w, R w w) (htr : ∀ a b c, R a b → R b c → R a c) (hQ : ∀ (d : Option Tmp) (v : Value) c a w, Q (.panic c) (a.put d v) w → Q (.panic c) a w)
    (h : wpT P ops Q R ((i, false) :: r1) ((j, false) :: r2) l a w.drew) : (Code.region id ops true).wp P Q a w :=
  wp_region_held (S := fun _ => True) hm (wpAnyH_of_T hrefl htr hs hQ i j r1 r2 l _ _ _ _ _ hok hl1 hl2 (fun _ _ => trivial) h)
theorem wpT_quiet {l1 l2 : List (Nat × Bool)} {i : Nat} {rest : List Nat} {o : Oper} {v : Value} {a : Act} {w : World} (ho : nth ops.toList i = some o) (hw : Region.wanted o (yielded ops a.tmps) = true)
    (hy : ∀ w', R w w' → (execOp a.eval o).run P w' = .ok (.value v) w') (h : wpT P ops Q R l1 l2 rest (a.put o.dst v) w) : wpT P ops Q R l1 l2 (i :: rest) a w := ⟨o, v, nth_ops ho, .inl ⟨hw, hy⟩, h⟩
theorem wpT_skip {l1 l2 : List (Nat × Bool)} {i : Nat} {rest : List Nat} {o : Oper} {a : Act} {w : World} (ho : nth ops.toList i = some o) (hw : Region.wanted o (yielded ops a.tmps) = false)
    (h : wpT P ops Q R l1 l2 rest (a.put o.dst undef) w) : wpT P ops Q R l1 l2 (i :: rest) a w := ⟨o, undef, nth_ops ho, .inr ⟨hw, rfl⟩, h⟩
theorem wpT_load {l1 l2 : List (Nat × Bool)} {i : Nat} {rest : List Nat} {o : Oper} {a : Act} {w : World} (ho : nth ops.toList i = some o) (hw : Region.wanted o (yielded ops a.tmps) = true) (ty : TypeId) (x : Operand) (hop : o.op = .load ty x)
    (b off : Nat) (hx : a.eval x = .pointer (some ⟨b, off, none⟩)) (cs : List Value) (d : TypeDesc) (hS : ∀ w', R w w' → w'.rangeAt b off cs) (hu : P.underlying ty = some d) (hd : d.isRow = true) (hi : (P.info? ty).map (·.size) = some cs.length)
    (h : wpT P ops Q R l1 l2 rest (a.put o.dst (.agg cs.toArray)) w) : wpT P ops Q R l1 l2 (i :: rest) a w :=
  ⟨o, _, nth_ops ho, yieldsIf_load_mid hw ty x hop b off hx cs d hS hu hd hi, h⟩
theorem wpT_nil {l1 l2 : List (Nat × Bool)} {a : Act} {w : World} (h1 : wpC P ops Q R l1 a w) (h2 : wpC P ops Q R l2 a w) : wpT P ops Q R l1 l2 [] a w := ⟨h1, h2⟩
end
/-- some cells from place o on are others -/
def put_ (cs : List Value) (o : Nat) (new : List Value) : List Value := cs.take o ++ new ++ cs.drop (o + new.length)
theorem put_mid (a b c new : List Value) (h : new.length = b.length) : put_ (a ++ b ++ c) a.length new = a ++ new ++ c := by
  unfold put_
  rw [h, show a ++ b ++ c = a ++ (b ++ c) from List.append_assoc _ _ _, List.take_left' rfl, ← List.append_assoc, List.drop_left' (by simp)]
theorem put_len (cs new : List Value) (o : Nat) (h : o + new.length ≤ cs.length) : (put_ cs o new).length = cs.length := by
  unfold put_
  simp
  omega
theorem put_one (cs : List Value) (o : Nat) (v : Value) (h : o < cs.length) : put_ cs o [v] = cs.set o v := by
  unfold put_
  rw [List.set_eq_take_append_cons_drop, if_pos h]
  simp
theorem put_all (cs new : List Value) (h : new.length = cs.length) : put_ cs 0 new = new := by
  unfold put_
  simp [h]

section
variable {w w' : World} {b : Nat} {t : TypeId} {cs : List Value}
/-- some of a block's cells, as they lie -/
theorem Blk.sub (h : Blk w b t cs) (o : Nat) (new : List Value) (hs : (cs.drop o).take new.length = new) : w.rangeAt b o new := fun j v hv => by
  have hj := (List.getElem?_eq_some_iff.1 hv).1
  rw [← hs, List.getElem?_take, if_pos hj, List.getElem?_drop] at hv
  rw [h.cell, hv]
theorem setCells_blk_at (a new old c : List Value) (w : World) (h : Blk w b t (a ++ old ++ c)) (hl : old.length = new.length) : Blk (w.setCells b a.length new) b t (a ++ new ++ c) := by
  induction new generalizing a w old with
  | nil =>
    obtain rfl : old = [] := List.eq_nil_of_length_eq_zero hl
    exact h
  | cons v vs ih =>
    rcases old with _ | ⟨o, old⟩
    · simp at hl
    · have h1 := h.set_ a.length v
      have e1 : (a ++ o :: old ++ c).set a.length v = (a ++ [v]) ++ old ++ c := by simp
      rw [e1] at h1
      have := ih (a ++ [v]) old _ h1 (by simpa using hl)
      simp only [List.append_assoc, List.cons_append, List.nil_append, List.length_append, List.length_cons, List.length_nil, Nat.zero_add] at this ⊢
      exact this
theorem setCells_put (h : Blk w b t cs) (o : Nat) (new : List Value) (hl : o + new.length ≤ cs.length) : Blk (w.setCells b o new) b t (put_ cs o new) := by
  have e1 : cs = cs.take o ++ (cs.drop o).take new.length ++ cs.drop (o + new.length) := by
    have e2 : cs.drop (o + new.length) = (cs.drop o).drop new.length := by rw [List.drop_drop]
    rw [e2, List.append_assoc, List.take_append_drop, List.take_append_drop]
  have hlen : (cs.take o).length = o := by rw [List.length_take]; omega
  rw [e1] at h
  have := setCells_blk_at (cs.take o) new ((cs.drop o).take new.length) (cs.drop (o + new.length)) w h (by simp; omega)
  rw [hlen] at this
  exact this
theorem Blk.there_at (h : Blk w b t cs) (o n : Nat) (hl : o + n ≤ cs.length) : w.there b o n := fun j hj => ⟨by rw [h.cell, List.getElem?_eq_getElem (by omega)]; rfl, h.fz _⟩
end

section
variable {P : Program}
theorem run_storeVar_val (w : World) (b o : Nat) (ty : TypeId) (v : Value) (new : List Value) (hv : v.cells = new.toArray) (ht : w.there b o new.length) (hi : (P.info? ty).map (·.size) = some new.length) (h1 : ∀ u ∈ new, u.oneCell' = true) :
    (storeVar ty ⟨b, o, none⟩ v).run P w = .ok () (w.setCells b o new) := by
  have h2 := run_storeVar_mid (P := P) w b o ty new.toArray (by simpa using ht) (by simpa using hi) (all_oneCell_toArray h1)
  have e : storeVar ty ⟨b, o, none⟩ v = storeVar ty ⟨b, o, none⟩ (.agg new.toArray) := by
    unfold storeVar
    rw [hv]
    rfl
  rw [e]
  exact h2
/-- a value is stored into a field (or the whole) of a block known whole -/
theorem wp_store_fld {op : Oper} {a : Act} {w : World} {K : Act → World → Prop} {Q : Exit → Act → World → Prop} (ty : TypeId) (x y : Operand) (ho : op.op = .store ty x y)
    (b o : Nat) (t : TypeId) (cs new : List Value) (hx : a.eval x = .pointer (some ⟨b, o, none⟩)) (v : Value) (hy : a.eval y = v) (hv : v.cells = new.toArray) (hb : Blk w b t cs) (hl : o + new.length ≤ cs.length)
    (hi : (P.info? ty).map (·.size) = some new.length) (h1 : ∀ u ∈ new, u.oneCell' = true)
    (h : ∀ w', Blk w' b t (put_ cs o new) → RBut (some b) w w' → K (a.put op.dst undef) w') : op.wp P a w K Q := by
  subst hy
  unfold Oper.wp execOp
  simp only [ho, hx, Instr.storeAt, Instr.sureAddr, Sem.run_bind, Sem.run_pure, Result.andThen_ok, run_storeVar_val w b o ty (a.eval y) new hv (hb.there_at o _ hl) hi h1]
  exact h _ (setCells_put hb o new hl) (setCells_but new o w)
theorem wpl_store_fld {ops : Array Oper} {rest : List Oper} {op : Oper} {a : Act} {w : World} {Q : Exit → Act → World → Prop} (hw : Region.wanted op (yielded ops a.tmps) = true) (ty : TypeId) (x y : Operand) (ho : op.op = .store ty x y)
    (b o : Nat) (t : TypeId) (cs new : List Value) (hx : a.eval x = .pointer (some ⟨b, o, none⟩)) (v : Value) (hy : a.eval y = v) (hv : v.cells = new.toArray) (hb : Blk w b t cs) (hl : o + new.length ≤ cs.length)
    (hi : (P.info? ty).map (·.size) = some new.length) (h1 : ∀ u ∈ new, u.oneCell' = true)
    (h : ∀ w', Blk w' b t (put_ cs o new) → RBut (some b) w w' → wpList P ops Q rest (a.put op.dst undef) w') : wpList P ops Q (op :: rest) a w :=
  wpList_wanted hw (wp_store_fld ty x y ho b o t cs new hx v hy hv hb hl hi h1 h)
/-- a field of several cells is read -/
theorem wpl_load_fld {ops : Array Oper} {rest : List Oper} {op : Oper} {a : Act} {w : World} {Q : Exit → Act → World → Prop} (hw : Region.wanted op (yielded ops a.tmps) = true) (ty : TypeId) (x : Operand) (ho : op.op = .load ty x)
    (b o : Nat) (hx : a.eval x = .pointer (some ⟨b, o, none⟩)) (cs : List Value) (d : TypeDesc) (hc : w.rangeAt b o cs)
    (hu : P.underlying ty = some d) (hd : d.isRow = true) (hi : (P.info? ty).map (·.size) = some cs.length)
    (h : wpList P ops Q rest (a.put op.dst (.agg cs.toArray)) w) : wpList P ops Q (op :: rest) a w :=
  wpList_wanted hw (wp_load_mid ty x ho b o hx cs d hc hu hd hi h)
/-- a value is built of parts -/
theorem wpl_build {ops : Array Oper} {rest : List Oper} {o : Oper} {a : Act} {w : World} {Q : Exit → Act → World → Prop} (hw : Region.wanted o (yielded ops a.tmps) = true) (t : TypeId) (parts : Array (Nat × Operand)) (ho : o.op = .build t parts)
    (cells : Array Value) (hf : P.built t (parts.toList.map fun x => (x.1, a.eval x.2)) = some cells)
    (h : wpList P ops Q rest (a.put o.dst (.agg cells)) w) : wpList P ops Q (o :: rest) a w := by
  refine wpList_wanted hw ?_
  unfold Oper.wp execOp
  simp only [ho, run_build w t _ cells (by rw [Array.toList_map]; exact hf), Sem.run_bind, Result.andThen_ok, Sem.run_pure]
  exact h
/-- what a built value's parts do to the zero value -/
theorem fill_nil (place : Nat → Option (Nat × Nat)) (cs : Array Value) : Instr.fill place cs [] = some cs := rfl
theorem zip_put (cs new : List Value) (o : Nat) (h : o + new.length ≤ cs.length) : (new.toArray.zipIdx.foldl (fun (cs : Array Value) (x : Value × Nat) => cs.setIfInBounds (o + x.2) x.1) cs.toArray) = (put_ cs o new).toArray := by
  have key : ∀ (new : List Value) (k o : Nat) (cs : List Value), o + k + new.length ≤ cs.length → ((new.zipIdx k).foldl (fun (cs : Array Value) (x : Value × Nat) => cs.setIfInBounds (o + x.2) x.1) cs.toArray) = (put_ cs (o + k) new).toArray := by
    intro new
    induction new with
    | nil => intro k o cs h; simp [put_]
    | cons v vs ih =>
      intro k o cs h
      simp only [List.zipIdx_cons, List.foldl_cons, List.setIfInBounds_toArray]
      rw [ih (k + 1) o (cs.set (o + k) v) (by simp at h ⊢; omega)]
      congr 1
      have hk : o + k < cs.length := by simp at h; omega
      unfold put_
      rw [List.take_set, List.drop_set, if_pos (by omega)]
      rw [show o + (k + 1) = o + k + 1 from by omega, List.take_add_one, List.getElem?_eq_getElem hk]
      have e2 : (List.take (o + k) cs).length = o + k := by rw [List.length_take]; omega
      rw [List.set_append_right _ _ (by rw [e2]; exact Nat.le_refl _), e2]
      simp only [Nat.sub_self, Option.toList_some, List.set_cons_zero, List.append_assoc, List.cons_append, List.nil_append, List.length_cons]
      rw [show o + k + 1 + vs.length = o + k + (vs.length + 1) from by omega]
  have e := key new 0 o cs (by simpa using h)
  simp only [Nat.add_zero] at e
  rw [← e]
  rw [← Array.foldl_toList, Array.toList_zipIdx]
theorem fill_cons (place : Nat → Option (Nat × Nat)) (cs new : List Value) (i o : Nat) (v : Value) (rest : List (Nat × Value)) (hp : place i = some (o, new.length)) (hv : v.cells = new.toArray) (hl : o + new.length ≤ cs.length) :
    Instr.fill place cs.toArray ((i, v) :: rest) = Instr.fill place (put_ cs o new).toArray rest := by
  conv => lhs; unfold Instr.fill
  rw [hp, hv]
  dsimp only
  rw [if_neg (by simp; omega)]
  congr 1
  exact zip_put cs new o hl
theorem built_struct {t : TypeId} {fs : Array Field} {z : Value} {places : List (Nat × Nat)} (hz : (P.info? t).bind (·.zero) = some z) (hu : P.underlying t = some (.struct fs)) (hp : fs.toList.mapM (fun f => (P.info? f.type).map fun i => (f.offset, i.size)) = some places) (parts : List (Nat × Value)) :
    P.built t parts = Instr.fill (places.toArray[·]?) z.cells parts := by
  unfold Program.built
  cases hi : P.info? t with
  | none => rw [hi] at hz; cases hz
  | some it =>
    rw [hi] at hz
    simp only [Option.bind_some] at hz
    simp only [hu, hz, hp]
/-- a value is built in a drawn region, where nothing else can come up -/
theorem wpC_build {ops : Array Oper} {Q : Exit → Act → World → Prop} {R : World → World → Prop} {i : Nat} {rest : List (Nat × Bool)} {o : Oper} {a : Act} {w : World} (hrefl : ∀ w, R w w) (ho : nth ops.toList i = some o) (hw : Region.wanted o (yielded ops a.tmps) = true) (t : TypeId) (parts : Array (Nat × Operand)) (hop : o.op = .build t parts)
    (cells : Array Value) (hf : P.built t (parts.toList.map fun x => (x.1, a.eval x.2)) = some cells) (h : wpC P ops Q R rest (a.put o.dst (.agg cells)) w) : wpC P ops Q R ((i, false) :: rest) a w := by
  refine wpC_val (v := .agg cells) hrefl ho hw ?_ h
  unfold execOp
  simp only [hop, run_build w t _ cells (by rw [Array.toList_map]; exact hf), Sem.run_bind, Result.andThen_ok, Sem.run_pure]
/-- a value is built in a drawn region, as soon as it may be -/
theorem wpC_build_t {ops : Array Oper} {Q : Exit → Act → World → Prop} {R : World → World → Prop} {i : Nat} {rest : List (Nat × Bool)} {o : Oper} {a : Act} {w : World} (ho : nth ops.toList i = some o) (hw : Region.wanted o (yielded ops a.tmps) = true) (t : TypeId) (parts : Array (Nat × Operand)) (hop : o.op = .build t parts)
    (cells : Array Value) (hf : P.built t (parts.toList.map fun x => (x.1, a.eval x.2)) = some cells) (h : wpC P ops Q R rest (a.put o.dst (.agg cells)) w) : wpC P ops Q R ((i, true) :: rest) a w := by
  refine wpC_quiet (v := .agg cells) ho hw (fun w' _ => ?_) h
  unfold execOp
  simp only [hop, run_build w' t _ cells (by rw [Array.toList_map]; exact hf), Sem.run_bind, Result.andThen_ok, Sem.run_pure]
/-- a field (or the whole) is stored in a drawn region -/
theorem wpC_store_fld {ops : Array Oper} {Q : Exit → Act → World → Prop} {R : World → World → Prop} {i : Nat} {rest : List (Nat × Bool)} {op : Oper} {a : Act} {w : World} (hn : nth ops.toList i = some op) (hw : Region.wanted op (yielded ops a.tmps) = true) (ty : TypeId) (x y : Operand) (ho : op.op = .store ty x y)
    (b o : Nat) (t : TypeId) (cs new : List Value) (hx : a.eval x = .pointer (some ⟨b, o, none⟩)) (v : Value) (hy : a.eval y = v) (hv : v.cells = new.toArray) (hb : Blk w b t cs) (hl : o + new.length ≤ cs.length)
    (hi : (P.info? ty).map (·.size) = some new.length) (h1 : ∀ u ∈ new, u.oneCell' = true) (hR : ∀ w', RBut (some b) w w' → R w w')
    (h : ∀ w', Blk w' b t (put_ cs o new) → RBut (some b) w w' → wpC P ops Q R rest (a.put op.dst undef) w') : wpC P ops Q R ((i, false) :: rest) a w := by
  unfold wpC wpOp
  simp only [nth_ops hn, hw, if_true]
  refine .inl ?_
  exact wp_store_fld ty x y ho b o t cs new hx v hy hv hb hl hi h1 fun w' h2 h3 => ⟨hR w' h3, h w' h2 h3⟩
theorem results_blk2 {fn : Func} {p q : Tmp} {ty : TypeId} (hr : fn.results = #[.cell p ty, .tmp q]) {tmps : Array Value} {w : World} {b : Nat} {t : TypeId} {cs : List Value} {d : TypeDesc} {v : Value} (hp : tmps.getD p undef = .pointer (some ⟨b, 0, none⟩)) (hv : tmps.getD q undef = v) (hc : Blk w b t cs)
    (hu : P.underlying ty = some d) (hd : d.isRow = true) (hi : (P.info? ty).map (·.size) = some cs.length) : (results fn tmps).run P w = .ok (.tuple #[.agg cs.toArray, v]) w := by
  have hp' : tmps[p]?.getD undef = .pointer (some ⟨b, 0, none⟩) := by simpa using hp
  have hv' : tmps[q]?.getD undef = v := by simpa using hv
  simp only [results, hr]
  simp [Sem.run_bind, hp', hv', asAddr, run_loadVar_mid w b 0 ty cs d hc.range hu hd hi]
end
end Go.Proofs.Ytdopgooglicaiaa
/- Rows of one size, one behind the other, in a block. -/
set_option linter.unusedSimpArgs false
set_option linter.unusedVariables false
namespace Go.Proofs.Ytdopgooglicaiaa
open Go.RowKit
set_option maxRecDepth 100000
section
variable {α : Type} {f : α → List Value} {k : Nat}
def rows (f : α → List Value) (l : List α) : List Value := l.flatMap f
theorem rows_nil (f : α → List Value) : rows f [] = [] := rfl
theorem rows_app (f : α → List Value) (a b : List α) : rows f (a ++ b) = rows f a ++ rows f b := by simp [rows]
theorem rows_one (f : α → List Value) (a : α) : rows f [a] = f a := by simp [rows]
theorem rows_len (h : ∀ a : α, (f a).length = k) (l : List α) : (rows f l).length = l.length * k := by
  induction l with
  | nil => simp [rows]
  | cons a l ih =>
    simp only [rows, List.flatMap_cons, List.length_append, List.length_cons] at ih ⊢
    rw [ih, h a, Nat.succ_mul]
    omega
theorem rows_len' : ∀ (l : List α), (∀ a ∈ l, (f a).length = k) → (rows f l).length = l.length * k
  | [], _ => by simp [rows]
  | a :: l, h => by
    have ih := rows_len' l (fun b hb => h b (by simp [hb]))
    simp only [rows, List.flatMap_cons, List.length_append, List.length_cons] at ih ⊢
    rw [ih, h a (by simp), Nat.succ_mul]
    omega
theorem rows_cut {l : List α} {q : Nat} {a : α} (hq : l[q]? = some a) : rows f l = rows f (l.take q) ++ (f a ++ rows f (l.drop (q + 1))) := by
  obtain ⟨hlt, he⟩ := List.getElem?_eq_some_iff.1 hq
  have e1 : l = l.take q ++ (a :: l.drop (q + 1)) := by rw [← he]; simp
  conv => lhs; rw [e1]
  rw [rows_app]
  simp [rows]
theorem rows_front (l : List α) (h : ∀ a ∈ l, (f a).length = k) {q : Nat} (hq : q ≤ l.length) : (rows f (l.take q)).length = q * k := by
  rw [rows_len' (l.take q) (fun a ha => h a (List.mem_of_mem_take ha)), List.length_take, Nat.min_eq_left hq]
/-- a cell of a row -/
theorem rows_get (l : List α) (h : ∀ a ∈ l, (f a).length = k) (rest : List Value) {q : Nat} {a : α} (hq : l[q]? = some a) {j : Nat} (hj : j < k) : (rows f l ++ rest)[q * k + j]? = (f a)[j]? := by
  have hlt := (List.getElem?_eq_some_iff.1 hq).1
  have h1 := rows_front l h (Nat.le_of_lt hlt)
  have h2 := h a (List.mem_of_getElem? hq)
  rw [rows_cut hq, List.append_assoc, List.getElem?_append_right (by omega), h1, List.append_assoc, List.getElem?_append_left (by omega)]
  congr 1
  omega
/-- a whole row -/
theorem rows_row (l : List α) (h : ∀ a ∈ l, (f a).length = k) (rest : List Value) {q : Nat} {a : α} (hq : l[q]? = some a) : ((rows f l ++ rest).drop (q * k)).take (f a).length = f a := by
  have hlt := (List.getElem?_eq_some_iff.1 hq).1
  have h1 := rows_front l h (Nat.le_of_lt hlt)
  rw [rows_cut hq, List.append_assoc, List.drop_left' h1, List.append_assoc, List.take_left' rfl]
/-- a part of a row -/
theorem rows_part (l : List α) (h : ∀ a ∈ l, (f a).length = k) (rest : List Value) {q : Nat} {a : α} (hq : l[q]? = some a) (o : Nat) (new : List Value) (hn : ((f a).drop o).take new.length = new) (ho : o + new.length ≤ k) :
    ((rows f l ++ rest).drop (q * k + o)).take new.length = new := by
  have hlt := (List.getElem?_eq_some_iff.1 hq).1
  have h1 := rows_front l h (Nat.le_of_lt hlt)
  have h2 := h a (List.mem_of_getElem? hq)
  rw [rows_cut hq, List.append_assoc, ← List.drop_drop, List.drop_left' h1, List.append_assoc, List.drop_append_of_le_length (by omega), List.take_append_of_le_length (by rw [List.length_drop]; omega)]
  exact hn
theorem put_in (X M Y new : List Value) (o : Nat) (ho : o + new.length ≤ M.length) : put_ (X ++ (M ++ Y)) (X.length + o) new = X ++ (put_ M o new ++ Y) := by
  unfold put_
  rw [List.take_append, List.take_of_length_le (by omega : X.length ≤ X.length + o), show X.length + o - X.length = o from by omega, List.take_append_of_le_length (by omega)]
  rw [show X.length + o + new.length = X.length + (o + new.length) from by omega, ← List.drop_drop, List.drop_left, List.drop_append_of_le_length (by omega)]
  simp
/-- a part of a row is stored -/
theorem rows_put (l : List α) (h : ∀ a ∈ l, (f a).length = k) (rest : List Value) {q : Nat} {a b : α} (hq : l[q]? = some a) (o : Nat) (new : List Value) (hp : put_ (f a) o new = f b) (ho : o + new.length ≤ k) :
    put_ (rows f l ++ rest) (q * k + o) new = rows f (l.set q b) ++ rest := by
  obtain ⟨hlt, he⟩ := List.getElem?_eq_some_iff.1 hq
  have h1 := rows_front l h (Nat.le_of_lt hlt)
  have h2 := h a (List.mem_of_getElem? hq)
  have hq2 : (l.set q b)[q]? = some b := by rw [List.getElem?_set_self hlt]
  rw [rows_cut hq, rows_cut hq2, List.append_assoc, List.append_assoc, ← h1, put_in _ _ _ _ _ (by omega), hp]
  rw [List.take_set_of_le (Nat.le_refl _), List.drop_set_of_lt (by omega)]
  simp [h1]
theorem rows_one' (l : List α) (h : ∀ a ∈ l, ∀ u ∈ f a, u.oneCell' = true) : ∀ u ∈ rows f l, u.oneCell' = true := by
  intro u hu
  obtain ⟨a, ha, hb⟩ := List.mem_flatMap.1 hu
  exact h a ha u hb
end
end Go.Proofs.Ytdopgooglicaiaa
/- Sums held against each other. -/
set_option linter.unusedSimpArgs false
set_option linter.unusedVariables false
namespace Go.Proofs.Ytdopgooglicaiaa
open Go.RowKit
set_option maxRecDepth 100000
def zero32 : List UInt8 := List.replicate 32 0
theorem zero32_one : ∀ u ∈ B8 zero32, u.oneCell' = true := B8_one _
theorem info_hash {l : List UInt8} (h : l.length = 32) : (Try.prog.info? 25).map (·.size) = some (B8 l).length := by rw [B8_len, h]; kernel_rfl
theorem info_u8' : ∃ i, Try.prog.info? 5 = some i := by
  obtain ⟨i, h, _⟩ := info_parts (P := Try.prog) (e := 5) (z := .int .u8 0) (size := 1) (bytes := 1) (by kernel_rfl)
  exact ⟨i, h⟩
theorem eq_hash (a b : List UInt8) (ha : a.length = 32) (hb : b.length = 32) (w : World) : (Op.equalIn 10000 25 (.agg (B8 a).toArray) (.agg (B8 b).toArray)).run Try.prog w = .ok (decide (a = b)) w := by
  obtain ⟨i, hi⟩ := info_u8'
  exact eq_bytes Try.underlying25 Try.underlying5 hi (by kernel_rfl) 9998 a b ha hb w
theorem eq_zero (a : List UInt8) (ha : a.length = 32) (w : World) : (Op.equalIn 10000 25 (.agg (B8 a).toArray) (.agg #[.int .u8 0, .int .u8 0, .int .u8 0, .int .u8 0, .int .u8 0, .int .u8 0, .int .u8 0, .int .u8 0, .int .u8 0, .int .u8 0, .int .u8 0, .int .u8 0, .int .u8 0, .int .u8 0, .int .u8 0, .int .u8 0, .int .u8 0, .int .u8 0, .int .u8 0, .int .u8 0, .int .u8 0, .int .u8 0, .int .u8 0, .int .u8 0, .int .u8 0, .int .u8 0, .int .u8 0, .int .u8 0, .int .u8 0, .int .u8 0, .int .u8 0, .int .u8 0])).run Try.prog w = .ok (decide (a = zero32)) w := eq_hash a zero32 ha rfl w
end Go.Proofs.Ytdopgooglicaiaa
/- A dispute's game as cells: its fields are read, and stored. -/
set_option linter.unusedSimpArgs false
set_option linter.unusedVariables false
namespace Go.Proofs.Ytdopgooglicaiaa
open Go.RowKit
set_option maxRecDepth 100000

/-- What a game is, but for its transactions. -/
structure GD where
  lo : Int
  hi : Int
  rlo : List UInt8
  rhi : List UInt8
  mid : List UInt8
  turn : Int
  moves : Int
  limit : Int
  won : Bool
  cl : Int
  ref : Int
  deriving DecidableEq
structure GLen (d : GD) : Prop where
  rlo : d.rlo.length = 32
  rhi : d.rhi.length = 32
  mid : d.mid.length = 32
def gtail (d : GD) : List Value := [.int .i64 d.turn, .int .i64 d.moves, .int .i64 d.limit, .bool d.won, .int .i64 d.cl, .int .i64 d.ref]
def gcells (v : Value) (d : GD) : List Value := [v, .int .i64 d.lo, .int .i64 d.hi] ++ (B8 d.rlo ++ (B8 d.rhi ++ (B8 d.mid ++ gtail d)))
def gval (v : Value) (d : GD) : Value := .agg (gcells v d).toArray
/-- sums, one behind the other -/
def H8 (hs : List (List UInt8)) : List Value := hs.flatMap B8
theorem gcells_len {v : Value} {d : GD} (h : GLen d) : (gcells v d).length = 105 := by
  simp [gcells, gtail, B8_len, h.rlo, h.rhi, h.mid]
theorem gcells_one {v : Value} {d : GD} (hv : v.oneCell' = true) : ∀ u ∈ gcells v d, u.oneCell' = true := by
  intro u hu
  simp only [gcells, gtail, List.mem_append, List.mem_cons, List.not_mem_nil, or_false] at hu
  rcases hu with (rfl | rfl | rfl) | hu | hu | hu | (rfl | rfl | rfl | rfl | rfl | rfl)
  all_goals first | exact hv | exact B8_one _ _ hu | rfl
section
variable {v : Value} {d : GD}
theorem g_tail (h : GLen d) (k : Nat) : (gcells v d)[99 + k]? = (gtail d)[k]? := by
  unfold gcells
  rw [List.getElem?_append_right (by simp; omega), List.getElem?_append_right (by rw [B8_len, h.rlo]; simp; omega), List.getElem?_append_right (by rw [B8_len, B8_len, h.rlo, h.rhi]; simp; omega),
    List.getElem?_append_right (by rw [B8_len, B8_len, B8_len, h.rlo, h.rhi, h.mid]; simp; omega)]
  congr 1
  rw [B8_len, B8_len, B8_len, h.rlo, h.rhi, h.mid]
  simp
  omega
theorem g_rlo (h : GLen d) : ((gcells v d).drop 3).take (B8 d.rlo).length = B8 d.rlo := by simp [gcells]
theorem g_rhi (h : GLen d) : ((gcells v d).drop 35).take (B8 d.rhi).length = B8 d.rhi := by
  have : (gcells v d).drop 35 = B8 d.rhi ++ (B8 d.mid ++ gtail d) := by
    unfold gcells
    rw [← List.append_assoc]
    exact List.drop_left' (by simp [B8_len, h.rlo])
  rw [this, List.take_left' rfl]
theorem g_mid (h : GLen d) : ((gcells v d).drop 67).take (B8 d.mid).length = B8 d.mid := by
  have : (gcells v d).drop 67 = B8 d.mid ++ gtail d := by
    unfold gcells
    rw [← List.append_assoc, ← List.append_assoc]
    exact List.drop_left' (by simp [B8_len, h.rlo, h.rhi])
  rw [this, List.take_left' rfl]
theorem p_txs (u : Value) : put_ (gcells v d) 0 [u] = gcells u d := by simp [put_, gcells]
theorem p_lo (x : Int) : put_ (gcells v d) 1 [.int .i64 x] = gcells v { d with lo := x } := by simp [put_, gcells, gtail]
theorem p_hi (x : Int) : put_ (gcells v d) 2 [.int .i64 x] = gcells v { d with hi := x } := by simp [put_, gcells, gtail]
theorem p_rlo (h : GLen d) (x : List UInt8) (hx : x.length = 32) : put_ (gcells v d) 3 (B8 x) = gcells v { d with rlo := x } := by
  have := put_mid [v, .int .i64 d.lo, .int .i64 d.hi] (B8 d.rlo) (B8 d.rhi ++ (B8 d.mid ++ gtail d)) (B8 x) (by simp [B8_len, h.rlo, hx])
  simpa [gcells, gtail] using this
theorem p_rhi (h : GLen d) (x : List UInt8) (hx : x.length = 32) : put_ (gcells v d) 35 (B8 x) = gcells v { d with rhi := x } := by
  have := put_mid ([v, .int .i64 d.lo, .int .i64 d.hi] ++ B8 d.rlo) (B8 d.rhi) (B8 d.mid ++ gtail d) (B8 x) (by simp [B8_len, h.rhi, hx])
  rw [show ([v, Value.int .i64 d.lo, .int .i64 d.hi] ++ B8 d.rlo).length = 35 from by simp [B8_len, h.rlo]] at this
  simpa [gcells, gtail] using this
theorem p_mid (h : GLen d) (x : List UInt8) (hx : x.length = 32) : put_ (gcells v d) 67 (B8 x) = gcells v { d with mid := x } := by
  have := put_mid ([v, .int .i64 d.lo, .int .i64 d.hi] ++ B8 d.rlo ++ B8 d.rhi) (B8 d.mid) (gtail d) (B8 x) (by simp [B8_len, h.mid, hx])
  rw [show ([v, Value.int .i64 d.lo, .int .i64 d.hi] ++ B8 d.rlo ++ B8 d.rhi).length = 67 from by simp [B8_len, h.rlo, h.rhi]] at this
  simpa [gcells, gtail] using this
theorem p_tail (h : GLen d) (k : Nat) (u : Value) (hk : k < 6) (d' : GD) (h1 : d'.lo = d.lo) (h2 : d'.hi = d.hi) (h3 : d'.rlo = d.rlo) (h4 : d'.rhi = d.rhi) (h5 : d'.mid = d.mid) (ht : (gtail d).set k u = gtail d') :
    put_ (gcells v d) (99 + k) [u] = gcells v d' := by
  rw [put_one _ _ _ (by rw [gcells_len h]; omega)]
  unfold gcells
  rw [h1, h2, h3, h4, h5, ← ht]
  rw [List.set_append_right _ _ (by simp; omega), List.set_append_right _ _ (by rw [B8_len, h.rlo]; simp; omega), List.set_append_right _ _ (by rw [B8_len, B8_len, h.rlo, h.rhi]; simp; omega),
    List.set_append_right _ _ (by rw [B8_len, B8_len, B8_len, h.rlo, h.rhi, h.mid]; simp; omega)]
  rw [B8_len, B8_len, B8_len, h.rlo, h.rhi, h.mid]
  simp only [List.length_cons, List.length_nil]
  rw [show 99 + k - (0 + 1 + 1 + 1) - 32 - 32 - 32 = k from by omega]
theorem p_turn (h : GLen d) (x : Int) : put_ (gcells v d) 99 [.int .i64 x] = gcells v { d with turn := x } := p_tail h 0 _ (by omega) _ rfl rfl rfl rfl rfl rfl
theorem p_moves (h : GLen d) (x : Int) : put_ (gcells v d) 100 [.int .i64 x] = gcells v { d with moves := x } := p_tail h 1 _ (by omega) _ rfl rfl rfl rfl rfl rfl
theorem p_limit (h : GLen d) (x : Int) : put_ (gcells v d) 101 [.int .i64 x] = gcells v { d with limit := x } := p_tail h 2 _ (by omega) _ rfl rfl rfl rfl rfl rfl
theorem p_won (h : GLen d) (x : Bool) : put_ (gcells v d) 102 [.bool x] = gcells v { d with won := x } := p_tail h 3 _ (by omega) _ rfl rfl rfl rfl rfl rfl
theorem p_cl (h : GLen d) (x : Int) : put_ (gcells v d) 103 [.int .i64 x] = gcells v { d with cl := x } := p_tail h 4 _ (by omega) _ rfl rfl rfl rfl rfl rfl
theorem p_ref (h : GLen d) (x : Int) : put_ (gcells v d) 104 [.int .i64 x] = gcells v { d with ref := x } := p_tail h 5 _ (by omega) _ rfl rfl rfl rfl rfl rfl
end
/-- A block that holds a game. -/
structure GB (t : TypeId) (w : World) (b : Nat) (v : Value) (d : GD) : Prop where
  blk : Blk w b t (gcells v d)
  len : GLen d
section
variable {t : TypeId} {w w' : World} {b : Nat} {v : Value} {d : GD}
theorem GB.c0 (h : GB t w b v d) : w.cell? ⟨b, 0, none⟩ = some v := by rw [h.blk.cell]; rfl
theorem GB.c1 (h : GB t w b v d) : w.cell? ⟨b, 1, none⟩ = some (.int .i64 d.lo) := by rw [h.blk.cell]; rfl
theorem GB.c2 (h : GB t w b v d) : w.cell? ⟨b, 2, none⟩ = some (.int .i64 d.hi) := by rw [h.blk.cell]; rfl
theorem GB.c99 (h : GB t w b v d) : w.cell? ⟨b, 99, none⟩ = some (.int .i64 d.turn) := by rw [h.blk.cell, g_tail h.len 0]; rfl
theorem GB.c100 (h : GB t w b v d) : w.cell? ⟨b, 100, none⟩ = some (.int .i64 d.moves) := by rw [h.blk.cell, g_tail h.len 1]; rfl
theorem GB.c101 (h : GB t w b v d) : w.cell? ⟨b, 101, none⟩ = some (.int .i64 d.limit) := by rw [h.blk.cell, g_tail h.len 2]; rfl
theorem GB.c102 (h : GB t w b v d) : w.cell? ⟨b, 102, none⟩ = some (.bool d.won) := by rw [h.blk.cell, g_tail h.len 3]; rfl
theorem GB.c103 (h : GB t w b v d) : w.cell? ⟨b, 103, none⟩ = some (.int .i64 d.cl) := by rw [h.blk.cell, g_tail h.len 4]; rfl
theorem GB.c104 (h : GB t w b v d) : w.cell? ⟨b, 104, none⟩ = some (.int .i64 d.ref) := by rw [h.blk.cell, g_tail h.len 5]; rfl
theorem GB.r3 (h : GB t w b v d) : w.rangeAt b 3 (B8 d.rlo) := h.blk.sub 3 _ (g_rlo h.len)
theorem GB.r35 (h : GB t w b v d) : w.rangeAt b 35 (B8 d.rhi) := h.blk.sub 35 _ (g_rhi h.len)
theorem GB.r67 (h : GB t w b v d) : w.rangeAt b 67 (B8 d.mid) := h.blk.sub 67 _ (g_mid h.len)
theorem GB.to (h : GB t w b v d) (hb : Below w.heap.size w w') : GB t w' b v d := ⟨h.blk.to hb, h.len⟩
theorem GB.but {row : Option Nat} (h : GB t w b v d) (hb : RBut row w w') (hne : some b ≠ row) : GB t w' b v d := ⟨h.blk.but hb hne, h.len⟩
theorem GB.lt (h : GB t w b v d) : b < w.heap.size := h.blk.lt
theorem GB.bel {B : Nat} (h : GB t w b v d) (hb : Below B w w') (hB : b < B) : GB t w' b v d := ⟨h.blk.below hb hB, h.len⟩
end
section
variable {P : Program} {ops : Array Oper} {rest : List Oper} {op : Oper} {a : Act} {Q : Exit → Act → World → Prop} {t : TypeId} {w : World} {b : Nat} {v : Value} {d : GD}
/-- a field of a game is stored -/
theorem wpl_gstore (gb : GB t w b v d) (o : Nat) {v' : Value} {d' : GD} {new : List Value} (hp : put_ (gcells v d) o new = gcells v' d') (hd' : GLen d') (hw : Region.wanted op (yielded ops a.tmps) = true) (ty : TypeId) (x y : Operand) (ho : op.op = .store ty x y)
    (hx : a.eval x = .pointer (some ⟨b, o, none⟩)) (v0 : Value) (hy : a.eval y = v0) (hv : v0.cells = new.toArray) (hl : o + new.length ≤ 105)
    (hi : (P.info? ty).map (·.size) = some new.length) (h1 : ∀ u ∈ new, u.oneCell' = true)
    (h : ∀ w', GB t w' b v' d' → RBut (some b) w w' → wpList P ops Q rest (a.put op.dst undef) w') : wpList P ops Q (op :: rest) a w :=
  wpl_store_fld hw ty x y ho b o t _ new hx v0 hy hv gb.blk (by rw [gcells_len gb.len]; exact hl) hi h1 fun w' h2 h3 => h w' ⟨by rw [← hp]; exact h2, hd'⟩ h3
/-- a field of one cell is stored -/
theorem wpl_gset (gb : GB t w b v d) (o : Nat) {v' v0 : Value} {d' : GD} (hp : put_ (gcells v d) o [v0] = gcells v' d') (hd' : GLen d') (hl : o < 105) (hw : Region.wanted op (yielded ops a.tmps) = true) (ty : TypeId) (x y : Operand) (ho : op.op = .store ty x y)
    (hx : a.eval x = .pointer (some ⟨b, o, none⟩)) (hy : a.eval y = v0) (hv : v0.cells = #[v0]) (hi : (P.info? ty).map (·.size) = some 1) (h1 : v0.oneCell' = true)
    (h : ∀ w', GB t w' b v' d' → RBut (some b) w w' → wpList P ops Q rest (a.put op.dst undef) w') : wpList P ops Q (op :: rest) a w :=
  wpl_gstore gb o hp hd' hw ty x y ho hx v0 hy hv (by simp; omega) hi (by intro u hu; simp at hu; subst hu; exact h1) h
/-- a whole game is read -/
theorem wpl_gload (gb : GB t w b v d) (hw : Region.wanted op (yielded ops a.tmps) = true) (ty : TypeId) (x : Operand) (ho : op.op = .load ty x) (hx : a.eval x = .pointer (some ⟨b, 0, none⟩)) (ds : TypeDesc)
    (hu : P.underlying ty = some ds) (hd : ds.isRow = true) (hi : (P.info? ty).map (·.size) = some 105)
    (h : wpList P ops Q rest (a.put op.dst (gval v d)) w) : wpList P ops Q (op :: rest) a w :=
  wpl_load_fld hw ty x ho b 0 hx (gcells v d) ds gb.blk.range hu hd (by rw [hi, gcells_len gb.len]) h
/-- a whole game is stored -/
theorem wpl_gput {cs : List Value} (hb : Blk w b t cs) (hl : cs.length = 105) (hd : GLen d) (h1 : v.oneCell' = true) (hw : Region.wanted op (yielded ops a.tmps) = true) (ty : TypeId) (x y : Operand) (ho : op.op = .store ty x y)
    (hx : a.eval x = .pointer (some ⟨b, 0, none⟩)) (hy : a.eval y = gval v d) (hi : (P.info? ty).map (·.size) = some 105)
    (h : ∀ w', GB t w' b v d → RBut (some b) w w' → wpList P ops Q rest (a.put op.dst undef) w') : wpList P ops Q (op :: rest) a w :=
  wpl_store_fld hw ty x y ho b 0 t cs (gcells v d) hx _ hy rfl hb (by rw [gcells_len hd]; omega) (by rw [hi, gcells_len hd]) (gcells_one h1) fun w' h2 h3 => h w' ⟨by rw [put_all _ _ (by rw [gcells_len hd, hl])] at h2; exact h2, hd⟩ h3
end
end Go.Proofs.Ytdopgooglicaiaa
/- Walks: a game's small functions: clock, turn, may, moved, own. -/
set_option linter.unusedSimpArgs false
set_option linter.unusedVariables false
namespace Go.Proofs.Ytdopgooglicaiaa
open Go.RowKit
set_option maxRecDepth 100000
theorem elH : El Try.prog 26 25 32 32 := El.mk' (z := .agg #[.int .u8 0, .int .u8 0, .int .u8 0, .int .u8 0, .int .u8 0, .int .u8 0, .int .u8 0, .int .u8 0, .int .u8 0, .int .u8 0, .int .u8 0, .int .u8 0, .int .u8 0, .int .u8 0, .int .u8 0, .int .u8 0, .int .u8 0, .int .u8 0, .int .u8 0, .int .u8 0, .int .u8 0, .int .u8 0, .int .u8 0, .int .u8 0, .int .u8 0, .int .u8 0, .int .u8 0, .int .u8 0, .int .u8 0, .int .u8 0, .int .u8 0, .int .u8 0]) Try.underlying26 (by kernel_rfl) rfl (by decide)
theorem info_game {v : Value} {d : GD} (h : GLen d) : (Try.prog.info? 42).map (·.size) = some (gcells v d).length := by rw [gcells_len h]; kernel_rfl
def clockB (n : Int) : Prop := 0 ≤ n ∧ n ≤ 1099511627776
theorem clock_yes (n : Int) (w : World) (h : clockB n) : Calls Try.prog 58 #[.int .i64 n] w fun e w' => e = .returned (.bool true) ∧ w = w' := by
  obtain ⟨h1, h2⟩ := h
  go_enter Try.func58, Try.ntmps58
  go_wp2
  go_ret
  exact ⟨rfl, rfl⟩
theorem clock_no (n : Int) (w : World) (h : ¬ clockB n) : Calls Try.prog 58 #[.int .i64 n] w fun e w' => e = .returned (.bool false) ∧ w = w' := by
  unfold clockB at h
  by_cases h1 : 0 ≤ n
  · have h2 : ¬ n ≤ 1099511627776 := by omega
    clear h
    go_enter Try.func58, Try.ntmps58
    go_wp2
    go_ret
    exact ⟨rfl, rfl⟩
  · clear h
    go_enter Try.func58, Try.ntmps58
    go_wp2
    go_ret
    exact ⟨rfl, rfl⟩
/-- A call that hands back a game. -/
def RGv (w : World) (v : Value) (d : GD) (en : Ending) (w' : World) : Prop := en = .returned (gval v d) ∧ Below w.heap.size w w'
def movedD (d : GD) (now : Int) : GD := { d with moves := d.moves + 1, limit := now + 3 }
def turnD (d : GD) : GD := { d with turn := if d.hi - d.lo = 1 then 3 else 1 }
def overD (d : GD) (won : Bool) : GD := { d with turn := 4, won := won, cl := if won then 200 else 0, ref := if won then 0 else 200 }
set_option maxRecDepth 100000
theorem one_int {k : IntKind} {z : Int} : ∀ u ∈ [Value.int k z], u.oneCell' = true := by intro u hu; simp at hu; subst hu; rfl
theorem one_bool {z : Bool} : ∀ u ∈ [Value.bool z], u.oneCell' = true := by intro u hu; simp at hu; subst hu; rfl
theorem zero_len : Try.zeroCells42.toList.length = 105 := by kernel_rfl
theorem info_g : (Try.prog.info? 42).map (·.size) = some 105 := by kernel_rfl
/-- a game is boxed, beside a block for what is handed back -/
theorem box_game (w : World) (v : Value) (d : GD) (hd : GLen d) : ∃ W, Hid (W = (w.alloc (.cells (gcells v d).toArray 42)).alloc (.cells Try.zeroCells42 42)) ∧ Below w.heap.size w W ∧ GB 42 W w.heap.size v d ∧
    Blk W (w.heap.size + 1) 42 Try.zeroCells42.toList := by
  refine ⟨_, rfl, ((Below.refl _ _).alloc (Nat.le_refl _) _).alloc (by simp) _, ⟨(Blk.new w (gcells v d).toArray 42).to ((Below.refl _ _).alloc (Nat.le_refl _) _), hd⟩, ?_⟩
  have := Blk.new (w.alloc (.cells (gcells v d).toArray 42)) Try.zeroCells42 42
  simpa using this
theorem moved_any (v : Value) (hv : v.oneCell' = true) (d : GD) (hd : GLen d) (now : Int) (w : World) (h1 : 0 ≤ d.moves) (h2 : d.moves ≤ 1099511627776) (h3 : -1099511627776 ≤ now) (h4 : now ≤ 1099511627776) :
    Calls Try.prog 67 #[gval v d, .int .i64 now] w (RGv w v (movedD d now)) := by
  obtain ⟨W, HW, hbw, gb, zb⟩ := box_game w v d hd
  unfold gval
  go_enter Try.func67, Try.ntmps67
  go_upto_region 1 with fail
  refine wp_at HW.out ?_
  clear HW
  have c100 := gb.c100
  go_wp2_with (first
    | (refine wpl_gset gb 100 (p_moves gb.len _) (by exact ⟨gb.len.1, gb.len.2, gb.len.3⟩) (by decide) (by rfl) _ _ _ rfl rfl rfl rfl (by kernel_rfl) rfl ?_
       intro w1 gb1 bu1
       clear c100)
    | (refine wpl_gset gb1 101 (p_limit gb1.len _) (by exact ⟨gb.len.1, gb.len.2, gb.len.3⟩) (by decide) (by rfl) _ _ _ rfl rfl rfl rfl (by kernel_rfl) rfl ?_
       intro w2 gb2 bu2)
    | (refine wpl_gload gb2 (by rfl) _ _ rfl rfl _ Try.underlying42 rfl info_g ?_)
    | (refine wpl_gput ((zb.but bu1 (by simp)).but bu2 (by simp)) zero_len gb2.len hv (by rfl) _ _ _ rfl rfl rfl info_g ?_
       intro w3 gb3 bu3))
  refine bodyPost_ret (v := gval v (movedD d now)) (results_blk Try.results67 rfl gb3.blk Try.underlying42 rfl (info_game gb3.len)) rfl ⟨rfl, ?_⟩
  have f1 := below_but (B := w.heap.size) bu1 (Nat.le_refl _) hbw.size
  have e1 := hbw.trans f1
  have e2 := e1.trans (below_but bu2 (Nat.le_refl _) e1.size)
  exact e2.trans (below_but bu3 (Nat.le_succ _) e2.size)
theorem turn_any (v : Value) (hv : v.oneCell' = true) (d : GD) (hd : GLen d) (w : World) (h1 : -1099511627776 ≤ d.lo) (h2 : d.lo ≤ 1099511627776) (h3 : -1099511627776 ≤ d.hi) (h4 : d.hi ≤ 1099511627776) :
    Calls Try.prog 60 #[gval v d] w (RGv w v (turnD d)) := by
  obtain ⟨W, HW, hbw, gb, zb⟩ := box_game w v d hd
  obtain ⟨q, hq, hq2⟩ : ∃ q : Int, Hid (turnD d = { d with turn := q }) ∧ ((q = 3 ∧ ((d.hi - d.lo) == 1) = true) ∨ (q = 1 ∧ ((d.hi - d.lo) == 1) = false)) := by
    by_cases h : d.hi - d.lo = 1
    · exact ⟨3, (by show _ = _; unfold turnD; rw [if_pos h]), .inl ⟨rfl, by simpa using h⟩⟩
    · exact ⟨1, (by show _ = _; unfold turnD; rw [if_neg h]), .inr ⟨rfl, by simpa using h⟩⟩
  rw [hq.out]
  clear hq
  unfold gval
  rcases hq2 with ⟨rfl, t1⟩ | ⟨rfl, t1⟩
  · go_enter Try.func60, Try.ntmps60
    go_upto_region 1 with fail
    refine wp_at HW.out ?_
    clear HW
    go_wp2_with (first
      | (refine wpl_gset gb 99 (p_turn gb.len _) (by exact ⟨gb.len.1, gb.len.2, gb.len.3⟩) (by decide) (by rfl) _ _ _ rfl rfl rfl rfl (by kernel_rfl) rfl ?_
         intro w1 gb1 bu1
         have c1 := gb1.c1
         have c2 := gb1.c2
         dsimp only at c1 c2)
      | (refine wpl_gset gb1 99 (p_turn gb1.len _) (by exact ⟨gb1.len.1, gb1.len.2, gb1.len.3⟩) (by decide) (by rfl) _ _ _ rfl rfl rfl rfl (by kernel_rfl) rfl ?_
         intro w2 gb2 bu2)
      | (refine wpl_gload gb2 (by rfl) _ _ rfl rfl _ Try.underlying42 rfl info_g ?_)
      | (refine wpl_gput ((zb.but bu1 (by simp)).but bu2 (by simp)) zero_len gb2.len hv (by rfl) _ _ _ rfl rfl rfl info_g ?_
         intro w3 gb3 bu3))
    refine bodyPost_ret (v := gval v { d with turn := 3 }) (results_blk Try.results60 rfl gb3.blk Try.underlying42 rfl (info_game gb3.len)) rfl ⟨rfl, ?_⟩
    have e1 := hbw.trans (below_but (B := w.heap.size) bu1 (Nat.le_refl _) hbw.size)
    have e2 := e1.trans (below_but bu2 (Nat.le_refl _) e1.size)
    exact e2.trans (below_but bu3 (Nat.le_succ _) e2.size)
  · go_enter Try.func60, Try.ntmps60
    go_upto_region 1 with fail
    refine wp_at HW.out ?_
    clear HW
    go_wp2_with (first
      | (refine wpl_gset gb 99 (p_turn gb.len _) (by exact ⟨gb.len.1, gb.len.2, gb.len.3⟩) (by decide) (by rfl) _ _ _ rfl rfl rfl rfl (by kernel_rfl) rfl ?_
         intro w1 gb1 bu1
         have c1 := gb1.c1
         have c2 := gb1.c2
         dsimp only at c1 c2)
      | (refine wpl_gload gb1 (by rfl) _ _ rfl rfl _ Try.underlying42 rfl info_g ?_)
      | (refine wpl_gput (zb.but bu1 (by simp)) zero_len gb1.len hv (by rfl) _ _ _ rfl rfl rfl info_g ?_
         intro w3 gb3 bu3))
    refine bodyPost_ret (v := gval v { d with turn := 1 }) (results_blk Try.results60 rfl gb3.blk Try.underlying42 rfl (info_game gb3.len)) rfl ⟨rfl, ?_⟩
    have e1 := hbw.trans (below_but (B := w.heap.size) bu1 (Nat.le_refl _) hbw.size)
    exact e1.trans (below_but bu3 (Nat.le_succ _) e1.size)
theorem over_any (v : Value) (hv : v.oneCell' = true) (d : GD) (hd : GLen d) (won : Bool) (w : World) :
    Calls Try.prog 78 #[gval v d, .bool won] w (RGv w v (overD d won)) := by
  obtain ⟨W, HW, hbw, gb, zb⟩ := box_game w v d hd
  unfold gval
  cases won
  · go_enter Try.func78, Try.ntmps78
    go_upto_region 1 with fail
    refine wp_at HW.out ?_
    clear HW
    go_wp2_with (first
      | (refine wpl_gset gb 99 (p_turn gb.len _) (by exact ⟨gb.len.1, gb.len.2, gb.len.3⟩) (by decide) (by rfl) _ _ _ rfl rfl rfl rfl (by kernel_rfl) rfl ?_
         intro w1 gb1 bu1)
      | (refine wpl_gset gb1 102 (p_won gb1.len _) (by exact ⟨gb1.len.1, gb1.len.2, gb1.len.3⟩) (by decide) (by rfl) _ _ _ rfl rfl rfl rfl (by kernel_rfl) rfl ?_
         intro w2 gb2 bu2)
      | (refine wpl_gset gb2 103 (p_cl gb2.len _) (by exact ⟨gb2.len.1, gb2.len.2, gb2.len.3⟩) (by decide) (by rfl) _ _ _ rfl rfl rfl rfl (by kernel_rfl) rfl ?_
         intro w3 gb3 bu3)
      | (refine wpl_gset gb3 104 (p_ref gb3.len _) (by exact ⟨gb3.len.1, gb3.len.2, gb3.len.3⟩) (by decide) (by rfl) _ _ _ rfl rfl rfl rfl (by kernel_rfl) rfl ?_
         intro w4 gb4 bu4
         have c103 := gb4.c103
         dsimp only at c103)
      | (refine wpl_gload gb4 (by rfl) _ _ rfl rfl _ Try.underlying42 rfl info_g ?_)
      | (refine wpl_gput ((((zb.but bu1 (by simp)).but bu2 (by simp)).but bu3 (by simp)).but bu4 (by simp)) zero_len gb4.len hv (by rfl) _ _ _ rfl rfl rfl info_g ?_
         intro w7 gb7 bu7))
    refine bodyPost_ret (v := gval v (overD d false)) (results_blk Try.results78 rfl gb7.blk Try.underlying42 rfl (info_game gb7.len)) rfl ⟨rfl, ?_⟩
    have e1 := hbw.trans (below_but (B := w.heap.size) bu1 (Nat.le_refl _) hbw.size)
    have e2 := e1.trans (below_but bu2 (Nat.le_refl _) e1.size)
    have e3 := e2.trans (below_but bu3 (Nat.le_refl _) e2.size)
    have e4 := e3.trans (below_but bu4 (Nat.le_refl _) e3.size)
    exact e4.trans (below_but bu7 (Nat.le_succ _) e4.size)
  · go_enter Try.func78, Try.ntmps78
    go_upto_region 1 with fail
    refine wp_at HW.out ?_
    clear HW
    go_wp2_with (first
      | (refine wpl_gset gb 99 (p_turn gb.len _) (by exact ⟨gb.len.1, gb.len.2, gb.len.3⟩) (by decide) (by rfl) _ _ _ rfl rfl rfl rfl (by kernel_rfl) rfl ?_
         intro w1 gb1 bu1)
      | (refine wpl_gset gb1 102 (p_won gb1.len _) (by exact ⟨gb1.len.1, gb1.len.2, gb1.len.3⟩) (by decide) (by rfl) _ _ _ rfl rfl rfl rfl (by kernel_rfl) rfl ?_
         intro w2 gb2 bu2)
      | (refine wpl_gset gb2 103 (p_cl gb2.len _) (by exact ⟨gb2.len.1, gb2.len.2, gb2.len.3⟩) (by decide) (by rfl) _ _ _ rfl rfl rfl rfl (by kernel_rfl) rfl ?_
         intro w3 gb3 bu3)
      | (refine wpl_gset gb3 104 (p_ref gb3.len _) (by exact ⟨gb3.len.1, gb3.len.2, gb3.len.3⟩) (by decide) (by rfl) _ _ _ rfl rfl rfl rfl (by kernel_rfl) rfl ?_
         intro w4 gb4 bu4)
      | (refine wpl_gset gb4 103 (p_cl gb4.len _) (by exact ⟨gb4.len.1, gb4.len.2, gb4.len.3⟩) (by decide) (by rfl) _ _ _ rfl rfl rfl rfl (by kernel_rfl) rfl ?_
         intro w5 gb5 bu5)
      | (refine wpl_gset gb5 104 (p_ref gb5.len _) (by exact ⟨gb5.len.1, gb5.len.2, gb5.len.3⟩) (by decide) (by rfl) _ _ _ rfl rfl rfl rfl (by kernel_rfl) rfl ?_
         intro w6 gb6 bu6)
      | (refine wpl_gload gb6 (by rfl) _ _ rfl rfl _ Try.underlying42 rfl info_g ?_)
      | (refine wpl_gput ((((((zb.but bu1 (by simp)).but bu2 (by simp)).but bu3 (by simp)).but bu4 (by simp)).but bu5 (by simp)).but bu6 (by simp)) zero_len gb6.len hv (by rfl) _ _ _ rfl rfl rfl info_g ?_
         intro w7 gb7 bu7))
    refine bodyPost_ret (v := gval v (overD d true)) (results_blk Try.results78 rfl gb7.blk Try.underlying42 rfl (info_game gb7.len)) rfl ⟨rfl, ?_⟩
    have e1 := hbw.trans (below_but (B := w.heap.size) bu1 (Nat.le_refl _) hbw.size)
    have e2 := e1.trans (below_but bu2 (Nat.le_refl _) e1.size)
    have e3 := e2.trans (below_but bu3 (Nat.le_refl _) e2.size)
    have e4 := e3.trans (below_but bu4 (Nat.le_refl _) e3.size)
    have e5 := e4.trans (below_but bu5 (Nat.le_refl _) e4.size)
    have e6 := e5.trans (below_but bu6 (Nat.le_refl _) e5.size)
    exact e6.trans (below_but bu7 (Nat.le_succ _) e6.size)
theorem H8_one (hs : List (List UInt8)) : ∀ u ∈ H8 hs, u.oneCell' = true := by
  intro u hu
  obtain ⟨h, _, hu⟩ := List.mem_flatMap.1 hu
  exact B8_one _ _ hu
theorem clone_H (A : Option Addr) (n c : Nat) (xs : List Value) (w : World) (h : Sl w 32 A n xs) (h1 : ∀ u ∈ xs, u.oneCell' = true) (hn : n ≤ 4194304) :
    Calls Try.prog 59 #[.slice A n c] w (RSl w 25 32 xs) := by
  have q : ∀ (W : World) (A : Option Addr), (binOp .eql 26 (.slice A n c) (.slice none 0 0)).run Try.prog W = .ok (.bool A.isNone) W := fun W A => Lib.run_eql_slice_nil W _ _ A n c 0 0 Try.underlying26
  rcases A with _ | ad
  · obtain rfl : n = 0 := by
      rcases Nat.eq_zero_or_pos n with h0 | h0
      · exact h0
      · obtain ⟨_, _, h, _⟩ := h.cells h0
        cases h
    obtain rfl : xs = [] := List.eq_nil_of_length_eq_zero (by simpa using h.len)
    go_enter Try.func59, Try.ntmps59
    go_wp2
    go_ret
    exact RSl.mk Own.nil_ (Below.refl _ _)
  · go_enter Try.func59, Try.ntmps59
    go_wp2_with (first
      | (at_builtin
         refine wpl_app _ _ _ _ elH rfl rfl rfl (Own.made w w.heap.size 25 #[] (Nat.le_refl _) (Nat.zero_le _) (by simp)) rfl (h.alloc _) h1 (by omega) (by omega) (by simp) ?_
         intro A' c' w' g))
    go_ret
    refine RSl.mk (by simpa using g.own) ?_
    exact below_grown ((Below.refl _ _).alloc (Nat.le_refl _) _) g.grow (by simp) (by intro k hk; simp at hk; omega)
/-- A call that hands back a game over transactions of its own. -/
def RGo (w : World) (hs : List (List UInt8)) (n : Nat) (d : GD) (en : Ending) (w' : World) : Prop := ∃ A c, en = .returned (gval (.slice A n c) d) ∧ Sl w' 32 A n (H8 hs) ∧ Below w.heap.size w w' ∧ (∀ b, A.map (·.block) = some b → w.heap.size ≤ b) ∧ n ≤ c
theorem own_any (A : Option Addr) (n c : Nat) (hs : List (List UInt8)) (d : GD) (hd : GLen d) (w : World) (h : Sl w 32 A n (H8 hs)) (hn : n ≤ 4194304) :
    Calls Try.prog 65 #[gval (.slice A n c) d] w (RGo w hs n d) := by
  obtain ⟨W, HW, hbw, gb, zb⟩ := box_game w (.slice A n c) d hd
  have hW := h.to hbw
  unfold gval
  go_enter Try.func65, Try.ntmps65
  go_upto_region 1 with fail
  refine wp_at HW.out ?_
  clear HW
  have c0 := gb.c0
  go_wp2_with fail
  refine (clone_H A n c _ W hW (H8_one hs) hn).mono ?_
  rintro e w1 ⟨A1, n1, c1, rfl, ho1, hb1⟩
  obtain rfl : n1 = n := by have := ho1.len; have := h.len; omega
  have gb1 := gb.to hb1
  have zb1 := zb.to hb1
  go_wp2_with (first
    | (refine wpl_gset gb1 0 (p_txs _) (by exact ⟨gb1.len.1, gb1.len.2, gb1.len.3⟩) (by decide) (by rfl) _ _ _ rfl rfl rfl rfl (by kernel_rfl) rfl ?_
       intro w2 gb2 bu2
       clear c0)
    | (refine wpl_gload gb2 (by rfl) _ _ rfl rfl _ Try.underlying42 rfl info_g ?_)
    | (refine wpl_gput (zb1.but bu2 (by simp)) zero_len gb2.len rfl (by rfl) _ _ _ rfl rfl rfl info_g ?_
       intro w3 gb3 bu3))
  have e1 := hbw.trans (hb1.mono hbw.size)
  have e2 := e1.trans (below_but bu2 (Nat.le_refl _) e1.size)
  have hz := zb.lt
  refine bodyPost_ret (v := gval (.slice A1 n1 c1) d) (results_blk Try.results65 rfl gb3.blk Try.underlying42 rfl (info_game gb3.len)) rfl ⟨A1, c1, rfl, ?_, e2.trans (below_but bu3 (Nat.le_succ _) e2.size), fun b hb => Nat.le_trans hbw.size (ho1.lt b hb).1, ho1.le.1⟩
  have s2 := ho1.sl.but2 bu2 (fun b hb h => by injection h with h; have := (ho1.lt b hb).1; omega)
  exact s2.but2 bu3 (fun b hb h => by injection h with h; have := (ho1.lt b hb).1; omega)
instance (n : Int) : Decidable (clockB n) := by unfold clockB; infer_instance
/-- what is wrong with a move -/
def mayE (d : GD) (t now : Int) : Int := if ¬ clockB now then 1 else if d.turn = 4 then 18 else if d.turn ≠ t then 17 else if d.limit < now then 18 else 0
theorem may_any (v : Value) (d : GD) (hd : GLen d) (t now : Int) (w : World) :
    Calls Try.prog 66 #[gval v d, .int .i64 t, .int .i64 now] w fun e w' => e = .returned (.int .i64 (mayE d t now)) ∧ Below w.heap.size w w' := by
  obtain ⟨W, HW, hbw, gb⟩ : ∃ W, Hid (W = w.alloc (.cells (gcells v d).toArray 42)) ∧ Below w.heap.size w W ∧ GB 42 W w.heap.size v d :=
    ⟨_, rfl, (Below.refl _ _).alloc (Nat.le_refl _) _, ⟨Blk.new w (gcells v d).toArray 42, hd⟩⟩
  have c99 := gb.c99
  have c101 := gb.c101
  unfold gval
  by_cases hc : clockB now
  · have CY := Lib.hid (clock_yes now W hc)
    by_cases h4 : d.turn = 4
    · have HE : Hid (mayE d t now = 18) := (by show _ = _; simp [mayE, hc, h4])
      have t4 : (d.turn == 4) = true := by simpa using h4
      rw [HE.out]
      clear hc h4
      go_enter Try.func66, Try.ntmps66
      go_upto_region 1 with fail
      refine wp_at HW.out ?_
      clear HW
      go_wp2_with fail
      refine CY.out.mono ?_
      rintro e w' ⟨rfl, rfl⟩
      go_wp2_with fail
      go_ret
      exact ⟨rfl, hbw⟩
    · have t4 : (d.turn == 4) = false := by simpa using h4
      by_cases h5 : d.turn = t
      · have t5 : (d.turn != t) = false := by simpa using h5
        by_cases h6 : d.limit < now
        · have HE : Hid (mayE d t now = 18) := (by show _ = _; unfold mayE; rw [if_neg (by simp [hc]), if_neg h4, if_neg (by simp [h5]), if_pos h6])
          rw [HE.out]
          clear hc h4 h5
          go_enter Try.func66, Try.ntmps66
          go_upto_region 1 with fail
          refine wp_at HW.out ?_
          clear HW
          go_wp2_with fail
          refine CY.out.mono ?_
          rintro e w' ⟨rfl, rfl⟩
          go_wp2_with fail
          go_ret
          exact ⟨rfl, hbw⟩
        · have HE : Hid (mayE d t now = 0) := (by show _ = _; unfold mayE; rw [if_neg (by simp [hc]), if_neg h4, if_neg (by simp [h5]), if_neg h6])
          rw [HE.out]
          clear hc h4 h5
          go_enter Try.func66, Try.ntmps66
          go_upto_region 1 with fail
          refine wp_at HW.out ?_
          clear HW
          go_wp2_with fail
          refine CY.out.mono ?_
          rintro e w' ⟨rfl, rfl⟩
          go_wp2_with fail
          go_ret
          exact ⟨rfl, hbw⟩
      · have t5 : (d.turn != t) = true := by simpa using h5
        have HE : Hid (mayE d t now = 17) := (by show _ = _; unfold mayE; rw [if_neg (by simp [hc]), if_neg h4, if_pos h5])
        rw [HE.out]
        clear hc h4 h5
        go_enter Try.func66, Try.ntmps66
        go_upto_region 1 with fail
        refine wp_at HW.out ?_
        clear HW
        go_wp2_with fail
        refine CY.out.mono ?_
        rintro e w' ⟨rfl, rfl⟩
        go_wp2_with fail
        go_ret
        exact ⟨rfl, hbw⟩
  · have CN := Lib.hid (clock_no now W hc)
    have HE : Hid (mayE d t now = 1) := (by show _ = _; unfold mayE; rw [if_pos hc])
    rw [HE.out]
    clear hc
    go_enter Try.func66, Try.ntmps66
    go_upto_region 1 with fail
    refine wp_at HW.out ?_
    clear HW
    go_wp2_with fail
    refine CN.out.mono ?_
    rintro e w' ⟨rfl, rfl⟩
    go_wp2_with fail
    go_ret
    exact ⟨rfl, hbw⟩
end Go.Proofs.Ytdopgooglicaiaa
/- The walk of game.Start. -/
set_option linter.unusedSimpArgs false
set_option linter.unusedVariables false
namespace Go.Proofs.Ytdopgooglicaiaa
open Go.RowKit
set_option maxRecDepth 100000
def zeroGD : GD := ⟨0, 0, zero32, zero32, zero32, 0, 0, 0, false, 0, 0⟩
theorem zero_game : Try.zeroCells42 = (gcells (.slice none 0 0) zeroGD).toArray := by kernel_rfl
theorem zeroGD_len : GLen zeroGD := ⟨rfl, rfl, rfl⟩
def startD (n : Int) (pre post : List UInt8) (now : Int) : GD := { zeroGD with hi := n, rlo := pre, rhi := post, limit := now + 3 }
theorem built_game (parts : List (Nat × Value)) : Try.prog.built 42 parts = Instr.fill ([(0, 1), (1, 1), (2, 1), (3, 32), (35, 32), (67, 32), (99, 1), (100, 1), (101, 1), (102, 1), (103, 1), (104, 1)].toArray[·]?) (gcells (.slice none 0 0) zeroGD).toArray parts := by
  rw [built_struct (z := .agg (gcells (.slice none 0 0) zeroGD).toArray) (places := [(0, 1), (1, 1), (2, 1), (3, 32), (35, 32), (67, 32), (99, 1), (100, 1), (101, 1), (102, 1), (103, 1), (104, 1)]) (by rw [← zero_game]; kernel_rfl) Try.underlying42 (by kernel_rfl)]
  rfl
theorem built_start (v : Value) (hv : v.cells = #[v]) (n : Int) (pre post : List UInt8) (h1 : pre.length = 32) (h2 : post.length = 32) (l : Int) :
    Try.prog.built 42 [(0, v), (2, .int .i64 n), (3, .agg (B8 pre).toArray), (4, .agg (B8 post).toArray), (8, .int .i64 l)] = some (gcells v { zeroGD with hi := n, rlo := pre, rhi := post, limit := l }).toArray := by
  rw [built_game]
  rw [fill_cons _ _ [v] 0 0 v _ rfl hv (by rw [gcells_len zeroGD_len]; simp), p_txs]
  rw [fill_cons _ _ [.int .i64 n] 2 2 _ _ rfl rfl (by rw [gcells_len zeroGD_len]; simp), p_hi]
  rw [fill_cons _ _ (B8 pre) 3 3 _ _ (by rw [B8_len, h1]; rfl) rfl (by rw [gcells_len ⟨rfl, rfl, rfl⟩, B8_len, h1]; omega), p_rlo ⟨rfl, rfl, rfl⟩ _ h1]
  rw [fill_cons _ _ (B8 post) 4 35 _ _ (by rw [B8_len, h2]; rfl) rfl (by rw [gcells_len ⟨h1, rfl, rfl⟩, B8_len, h2]; omega), p_rhi ⟨h1, rfl, rfl⟩ _ h2]
  rw [fill_cons _ _ [.int .i64 l] 8 101 _ _ rfl rfl (by rw [gcells_len ⟨h1, h2, rfl⟩]; simp), p_limit ⟨h1, h2, rfl⟩]
  rfl
/-- A call that hands back a game over transactions of its own, and an error. -/
def RGe (w : World) (hs : List (List UInt8)) (n : Nat) (r : GD × Int) (en : Ending) (w' : World) : Prop := ∃ A c, en = .returned (.tuple #[gval (.slice A n c) r.1, .int .i64 r.2]) ∧ Sl w' 32 A n (H8 hs) ∧ Below w.heap.size w w' ∧ (∀ b, A.map (·.block) = some b → w.heap.size ≤ b) ∧ n ≤ c
set_option maxRecDepth 100000 in
set_option maxHeartbeats 1000000 in
theorem start_ok (A : Option Addr) (n c : Nat) (hs : List (List UInt8)) (pre post : List UInt8) (now : Int) (w : World) (h : Sl w 32 A n (H8 hs)) (h1 : 1 ≤ n) (h2 : n ≤ 2048) (hp : pre.length = 32) (hq : post.length = 32) (hc : clockB now) :
    Calls Try.prog 33 #[.slice A n c, hv pre, hv post, .int .i64 now] w (RGe w hs n (turnD (startD n pre post now), 0)) := by
  obtain ⟨W, HW, hbw, bp, bq, zb⟩ : ∃ W, Hid (W = ((w.alloc (.cells (B8 pre).toArray 25)).alloc (.cells (B8 post).toArray 25)).alloc (.cells Try.zeroCells42 42)) ∧ Below w.heap.size w W ∧
      Blk W w.heap.size 25 (B8 pre) ∧ Blk W (w.heap.size + 1) 25 (B8 post) ∧ Blk W (w.heap.size + 2) 42 Try.zeroCells42.toList := by
    refine ⟨_, rfl, (((Below.refl _ _).alloc (Nat.le_refl _) _).alloc (by simp) _).alloc (by simp; omega) _, ?_, ?_, ?_⟩
    · exact (Blk.new w (B8 pre).toArray 25).to (((Below.refl _ _).alloc (Nat.le_refl _) _).alloc (by simp) _)
    · have := (Blk.new (w.alloc (.cells (B8 pre).toArray 25)) (B8 post).toArray 25).to ((Below.refl _ _).alloc (Nat.le_refl _) (.cells Try.zeroCells42 42))
      simpa using this
    · have := Blk.new ((w.alloc (.cells (B8 pre).toArray 25)).alloc (.cells (B8 post).toArray 25)) Try.zeroCells42 42
      rw [show ((w.alloc (.cells (B8 pre).toArray 25)).alloc (.cells (B8 post).toArray 25)).heap.size = w.heap.size + 2 from by simp] at this
      exact this
  have hW := h.to hbw
  have HP := Lib.hid hp
  have HQ := Lib.hid hq
  have CY := Lib.hid (clock_yes now W hc)
  obtain ⟨hc1, hc2⟩ := hc
  clear hp hq
  unfold hv
  go_enter Try.func33, Try.ntmps33
  go_upto_region 1 with fail
  refine wp_at HW.out ?_
  clear HW
  go_wp2_with fail
  refine CY.out.mono ?_
  rintro e w' ⟨rfl, rfl⟩
  go_wp2_with fail
  have hdl : GLen (startD n pre post now) := ⟨HP.out, HQ.out, rfl⟩
  have k3 : IntKind.i64.wrap (now + 3) = now + 3 := IntWalk.i64_in _ (by omega)
  refine wp_region_T [0, 2, 3, 4, 5, 6, 7] 1 9 [(8, true), (9, false), (10, false)] [(1, false), (8, true), (10, false)] (Below W.heap.size) (by kernel_rfl) (by kernel_rfl) (by kernel_rfl) (by decide) (by decide) (Below.refl _) (fun _ _ _ => Below.trans) (by intro d v c a w h; cases d <;> exact h) ?_
  have hWd := hW.drew
  have bpd : Blk W.drew w.heap.size 25 (B8 pre) := bp
  have bqd : Blk W.drew (w.heap.size + 1) 25 (B8 post) := bq
  have zbd : Blk W.drew (w.heap.size + 2) 42 Try.zeroCells42.toList := zb
  have hbd : Below w.heap.size w W.drew := hbw.drew
  have hsz : W.heap.size = W.drew.heap.size := rfl
  clear hW bp bq zb hbw CY
  rw [hsz]
  clear hsz
  generalize W.drew = V at *
  have rp : ∀ w', Below V.heap.size V w' → w'.rangeAt w.heap.size 0 (B8 pre) := fun w' hw' => (bpd.below hw' bpd.lt).range
  have rq : ∀ w', Below V.heap.size V w' → w'.rangeAt (w.heap.size + 1) 0 (B8 post) := fun w' hw' => (bqd.below hw' bqd.lt).range
  repeat (first | (refine wpT_quiet (v := ?_) rfl (by rfl) ?_ ?_; rotate_left; (· (intro w' hw'; go_simp; try with_reducible rfl)); simp only [Act.put, List.setIfInBounds_toArray, List.set_cons_zero, List.set_cons_succ]) | (refine wpT_skip rfl (by rfl) ?_; simp only [Act.put, List.setIfInBounds_toArray, List.set_cons_zero, List.set_cons_succ]))
  refine wpT_load rfl (by rfl) _ _ rfl w.heap.size 0 rfl (B8 pre) _ rp Try.underlying25 rfl (info_hash HP.out) ?_
  simp only [Act.put, List.setIfInBounds_toArray, List.set_cons_zero, List.set_cons_succ]
  refine wpT_load rfl (by rfl) _ _ rfl (w.heap.size + 1) 0 rfl (B8 post) _ rq Try.underlying25 rfl (info_hash HQ.out) ?_
  simp only [Act.put, List.setIfInBounds_toArray, List.set_cons_zero, List.set_cons_succ]
  repeat (first | (refine wpT_quiet (v := ?_) rfl (by rfl) ?_ ?_; rotate_left; (· (intro w' hw'; go_simp; try with_reducible rfl)); simp only [Act.put, List.setIfInBounds_toArray, List.set_cons_zero, List.set_cons_succ]) | (refine wpT_skip rfl (by rfl) ?_; simp only [Act.put, List.setIfInBounds_toArray, List.set_cons_zero, List.set_cons_succ]))
  refine wpT_nil ?_ ?_
  · clear rp rq
    (refine wpC_loud rfl (by rfl) ?_; intro K hK; go_simp)
    refine (clone_H A n c _ _ hWd (H8_one hs) (by omega)).mono ?_
    rintro e w1 ⟨A1, n1, c1, rfl, ho1, hb1⟩
    have le1 := ho1.le.1
    obtain rfl : n = n1 := by have := ho1.len; have := h.len; omega
    (refine hK.out _ _ (hb1) ?_; clear hK K; try simp only [Act.put, List.setIfInBounds_toArray, List.set_cons_zero, List.set_cons_succ])
    refine wpC_build_t rfl (by rfl) _ _ rfl _ (built_start (.slice A1 n c1) rfl n pre post HP.out HQ.out (now + 3)) ?_
    simp only [Act.put, List.setIfInBounds_toArray, List.set_cons_zero, List.set_cons_succ]
    clear k3
    (refine wpC_loud rfl (by rfl) ?_; intro K hK; go_simp)
    have f1 : Below V.heap.size V w1 := hb1
    (refine hK.out _ _ ((Below.refl _ _).alloc (by exact f1.size) _) ?_; clear hK K; try simp only [Act.put, List.setIfInBounds_toArray, List.set_cons_zero, List.set_cons_succ])
    have bz : Blk (w1.alloc (.cells Try.zeroCells42 42)) w1.heap.size 42 Try.zeroCells42.toList := Blk.new w1 _ _
    have f2 : Below V.heap.size V (w1.alloc (.cells Try.zeroCells42 42)) := f1.alloc (by exact f1.size) _
    have sl2 := ho1.sl.alloc (.cells Try.zeroCells42 42)
    have ob : ∀ b, A1.map (·.block) = some b → V.heap.size ≤ b ∧ b < w1.heap.size := fun b hb => ho1.lt b hb
    have hg : V.heap.size ≤ w1.heap.size := f1.size
    generalize w1.alloc (.cells Try.zeroCells42 42) = w2 at *
    generalize w1.heap.size = g at *
    have hgs := bz.lt
    refine wpC_store_fld rfl (by rfl) _ _ _ rfl g 0 42 _ (gcells (.slice A1 n c1) (startD n pre post now)) rfl _ rfl rfl bz (by rw [gcells_len hdl, zero_len]; omega) (info_game hdl) (gcells_one rfl) (fun w' h => below_but h hg f2.size) ?_
    intro w3 bz3 bu3
    rw [put_all _ _ (by rw [gcells_len hdl, zero_len])] at bz3
    have gb3 : GB 42 w3 g (.slice A1 n c1) (startD n pre post now) := ⟨bz3, hdl⟩
    have f3 : Below V.heap.size V w3 := f2.trans (below_but bu3 hg f2.size)
    have sl3 := sl2.but2 bu3 (fun b hb h => by injection h with h; have := (ob b hb).2; omega)
    simp only [Act.put, List.setIfInBounds_toArray, List.set_cons_zero, List.set_cons_succ]
    refine wpC_nil ?_
    go_wp2_with (first
      | (refine wpl_gload gb3 (by rfl) _ _ rfl rfl _ Try.underlying42 rfl info_g ?_))
    refine (turn_any _ rfl _ hdl _ (by show _ ≤ (0 : Int); omega) (by show (0 : Int) ≤ _; omega) (by show _ ≤ (n : Int); omega) (by show (n : Int) ≤ _; omega)).mono ?_
    rintro e w4 ⟨rfl, hb4⟩
    have f4 := f3.trans (hb4.mono f3.size)
    have zb4 := zbd.below (f4) zbd.lt
    have hdt : GLen (turnD (startD n pre post now)) := ⟨HP.out, HQ.out, rfl⟩
    go_wp2_with (first
      | (refine wpl_gput zb4 zero_len hdt rfl (by rfl) _ _ _ rfl rfl rfl info_g ?_
         intro w5 gb5 bu5))
    have e4 : Below w.heap.size w w4 := hbd.trans (f4.mono hbd.size)
    refine bodyPost_ret (results_blk2 Try.results33 rfl rfl gb5.blk Try.underlying42 rfl (info_game gb5.len)) rfl ⟨A1, c1, rfl, ?_, e4.trans (below_but bu5 (by omega) e4.size), fun b hb => by have := (ob b hb).1; have := hbd.size; omega, le1⟩
    exact ((sl3.to hb4).but2 bu5 (fun b hb h => by injection h with h; have := (ob b hb).1; have := zbd.lt; omega))
  · clear rp rq
    (refine wpC_loud rfl (by rfl) ?_; intro K hK; go_simp)
    (refine hK.out _ _ ((Below.refl _ _).alloc (Nat.le_refl _) _) ?_; clear hK K; try simp only [Act.put, List.setIfInBounds_toArray, List.set_cons_zero, List.set_cons_succ])
    have bz : Blk (V.alloc (.cells Try.zeroCells42 42)) V.heap.size 42 Try.zeroCells42.toList := Blk.new V _ _
    have f1 : Below V.heap.size V (V.alloc (.cells Try.zeroCells42 42)) := (Below.refl _ _).alloc (Nat.le_refl _) _
    have sl1 := hWd.alloc (.cells Try.zeroCells42 42)
    have hgs := bz.lt
    generalize V.alloc (.cells Try.zeroCells42 42) = w1 at *
    (refine wpC_loud rfl (by rfl) ?_; intro K hK; go_simp)
    refine (clone_H A n c _ _ sl1 (H8_one hs) (by omega)).mono ?_
    rintro e w2 ⟨A1, n1, c1, rfl, ho1, hb1⟩
    have le1 := ho1.le.1
    obtain rfl : n = n1 := by have := ho1.len; have := h.len; omega
    have f2 := f1.trans (hb1.mono f1.size)
    (refine hK.out _ _ (hb1.mono f1.size) ?_; clear hK K; try simp only [Act.put, List.setIfInBounds_toArray, List.set_cons_zero, List.set_cons_succ])
    refine wpC_build_t rfl (by rfl) _ _ rfl _ (built_start (.slice A1 n c1) rfl n pre post HP.out HQ.out (now + 3)) ?_
    simp only [Act.put, List.setIfInBounds_toArray, List.set_cons_zero, List.set_cons_succ]
    clear k3
    have ob : ∀ b, A1.map (·.block) = some b → w1.heap.size ≤ b ∧ b < w2.heap.size := fun b hb => ho1.lt b hb
    have bz2 := bz.to hb1
    refine wpC_store_fld rfl (by rfl) _ _ _ rfl V.heap.size 0 42 _ (gcells (.slice A1 n c1) (startD n pre post now)) rfl _ rfl rfl bz2 (by rw [gcells_len hdl, zero_len]; omega) (info_game hdl) (gcells_one rfl) (fun w' h => below_but h (Nat.le_refl _) f2.size) ?_
    intro w3 bz3 bu3
    rw [put_all _ _ (by rw [gcells_len hdl, zero_len])] at bz3
    have gb3 : GB 42 w3 V.heap.size (.slice A1 n c1) (startD n pre post now) := ⟨bz3, hdl⟩
    have f3 : Below V.heap.size V w3 := f2.trans (below_but bu3 (Nat.le_refl _) f2.size)
    have sl3 := ho1.sl.but2 bu3 (fun b hb h => by injection h with h; have := (ob b hb).1; omega)
    simp only [Act.put, List.setIfInBounds_toArray, List.set_cons_zero, List.set_cons_succ]
    refine wpC_nil ?_
    go_wp2_with (first
      | (refine wpl_gload gb3 (by rfl) _ _ rfl rfl _ Try.underlying42 rfl info_g ?_))
    refine (turn_any _ rfl _ hdl _ (by show _ ≤ (0 : Int); omega) (by show (0 : Int) ≤ _; omega) (by show _ ≤ (n : Int); omega) (by show (n : Int) ≤ _; omega)).mono ?_
    rintro e w4 ⟨rfl, hb4⟩
    have f4 := f3.trans (hb4.mono f3.size)
    have zb4 := zbd.below (f4) zbd.lt
    have hdt : GLen (turnD (startD n pre post now)) := ⟨HP.out, HQ.out, rfl⟩
    go_wp2_with (first
      | (refine wpl_gput zb4 zero_len hdt rfl (by rfl) _ _ _ rfl rfl rfl info_g ?_
         intro w5 gb5 bu5))
    have e4 : Below w.heap.size w w4 := hbd.trans (f4.mono hbd.size)
    refine bodyPost_ret (results_blk2 Try.results33 rfl rfl gb5.blk Try.underlying42 rfl (info_game gb5.len)) rfl ⟨A1, c1, rfl, ?_, e4.trans (below_but bu5 (by omega) e4.size), fun b hb => by have := (ob b hb).1; have := hbd.size; have := f1.size; omega, le1⟩
    exact ((sl3.to hb4).but2 bu5 (fun b hb h => by injection h with h; have := (ob b hb).1; have := zbd.lt; have := f1.size; omega))
end Go.Proofs.Ytdopgooglicaiaa
/- Walks: a game's moves: Say, Choose, Expire. -/
set_option linter.unusedSimpArgs false
set_option linter.unusedVariables false
namespace Go.Proofs.Ytdopgooglicaiaa
open Go.RowKit
set_option maxRecDepth 100000
def sayD (d : GD) (mid : List UInt8) (now : Int) : GD × Int := if mayE d 1 now = 0 then (movedD { d with mid := mid, turn := 2 } now, 0) else (d, mayE d 1 now)
theorem mayE_clock {d : GD} {t now : Int} (h : mayE d t now = 0) : clockB now := by
  unfold mayE at h
  by_cases hc : clockB now
  · exact hc
  · rw [if_pos hc] at h
    cases h
set_option maxRecDepth 100000 in
set_option maxHeartbeats 1000000 in
theorem say_any (A : Option Addr) (n c : Nat) (hs : List (List UInt8)) (d : GD) (hd : GLen d) (mid : List UInt8) (now : Int) (w : World) (h : Sl w 32 A n (H8 hs)) (hn : n ≤ 4194304) (hm : mid.length = 32) (m1 : 0 ≤ d.moves) (m2 : d.moves ≤ 1099511627776) :
    Calls Try.prog 38 #[gval (.slice A n c) d, hv mid, .int .i64 now] w (RGe w hs n (sayD d mid now)) := by
  obtain ⟨W, HW, hbw, gb, bm, zb⟩ : ∃ W, Hid (W = ((w.alloc (.cells (gcells (.slice A n c) d).toArray 42)).alloc (.cells (B8 mid).toArray 25)).alloc (.cells Try.zeroCells42 42)) ∧ Below w.heap.size w W ∧
      GB 42 W w.heap.size (.slice A n c) d ∧ Blk W (w.heap.size + 1) 25 (B8 mid) ∧ Blk W (w.heap.size + 2) 42 Try.zeroCells42.toList := by
    refine ⟨_, rfl, (((Below.refl _ _).alloc (Nat.le_refl _) _).alloc (by simp) _).alloc (by simp; omega) _, ⟨?_, hd⟩, ?_, ?_⟩
    · exact (Blk.new w (gcells (.slice A n c) d).toArray 42).to (((Below.refl _ _).alloc (Nat.le_refl _) _).alloc (by simp) _)
    · have := (Blk.new (w.alloc (.cells (gcells (.slice A n c) d).toArray 42)) (B8 mid).toArray 25).to ((Below.refl _ _).alloc (Nat.le_refl _) (.cells Try.zeroCells42 42))
      simpa using this
    · have := Blk.new ((w.alloc (.cells (gcells (.slice A n c) d).toArray 42)).alloc (.cells (B8 mid).toArray 25)) Try.zeroCells42 42
      rw [show ((w.alloc (.cells (gcells (.slice A n c) d).toArray 42)).alloc (.cells (B8 mid).toArray 25)).heap.size = w.heap.size + 2 from by simp] at this
      exact this
  have hW := h.to hbw
  have HM := Lib.hid hm
  clear hm
  have hz := zb.lt
  unfold hv
  obtain ⟨E, hE⟩ : ∃ E, mayE d 1 now = E := ⟨_, rfl⟩
  have HE := Lib.hid hE
  unfold gval
  go_enter Try.func38, Try.ntmps38
  go_upto_region 1 with fail
  refine wp_at HW.out ?_
  clear HW hE
  go_wp2_with (first
    | (refine wpl_gload gb (by rfl) _ _ rfl rfl _ Try.underlying42 rfl info_g ?_))
  refine (own_any A n c hs d hd W hW hn).mono ?_
  rintro e w1 ⟨A1, c1, rfl, sl1, hb1, fr1, le1⟩
  have LE1 := Lib.hid le1
  clear le1
  have gb1 := gb.to hb1
  have bm1 := bm.to hb1
  have zb1 := zb.to hb1
  have f1 := hbw.trans (hb1.mono hbw.size)
  clear gb bm zb
  go_wp2_with (first
    | (refine wpl_gput gb1.blk (gcells_len gb1.len) hd rfl (by rfl) _ _ _ rfl rfl rfl info_g ?_
       intro w2 gb2 bu2)
    | (refine wpl_gload gb2 (by rfl) _ _ rfl rfl _ Try.underlying42 rfl info_g ?_))
  have f2 := f1.trans (below_but bu2 (Nat.le_refl _) f1.size)
  have sl2 := sl1.but2 bu2 (fun b hb h => by injection h with h; have := fr1 b hb; omega)
  have bm2 := bm1.but bu2 (by simp)
  have zb2 := zb1.but bu2 (by simp)
  refine (may_any (.slice A1 n c1) d hd 1 now w2).mono ?_
  rintro e w3 ⟨rfl, hb3⟩
  rw [HE.out]
  have gb3 := gb2.to hb3
  have bm3 := bm2.to hb3
  have zb3 := zb2.to hb3
  have sl3 := sl2.to hb3
  have f3 := f2.trans (hb3.mono f2.size)
  clear gb1 bm1 zb1 sl1 f1 bu2 hb1 bm2 zb2 sl2 hb3 gb2
  by_cases h0 : E = 0
  · subst h0
    have hc := mayE_clock HE.out
    have hsay : sayD d mid now = (movedD { d with mid := mid, turn := 2 } now, 0) := by unfold sayD; rw [if_pos HE.out]
    have HS := Lib.hid hsay
    clear hsay
    go_wp2_with (first
      | (refine wpl_load_fld (by rfl) _ _ rfl (w.heap.size + 1) 0 rfl (B8 mid) _ bm3.range Try.underlying25 rfl (info_hash HM.out) ?_)
      | (refine wpl_gstore gb3 67 (p_mid gb3.len mid HM.out) (by exact ⟨gb3.len.1, gb3.len.2, HM.out⟩) (by rfl) _ _ _ rfl rfl _ rfl rfl (by rw [B8_len, HM.out]; omega) (info_hash HM.out) (B8_one _) ?_
         intro w4 gb4 bu4)
      | (refine wpl_gset gb4 99 (p_turn gb4.len _) (by exact ⟨gb4.len.1, gb4.len.2, gb4.len.3⟩) (by decide) (by rfl) _ _ _ rfl rfl rfl rfl (by kernel_rfl) rfl ?_
         intro w5 gb5 bu5)
      | (refine wpl_gload gb5 (by rfl) _ _ rfl rfl _ Try.underlying42 rfl info_g ?_))
    have f4 := f3.trans (below_but bu4 (Nat.le_refl _) f3.size)
    have f5 := f4.trans (below_but bu5 (Nat.le_refl _) f4.size)
    refine (moved_any (.slice A1 n c1) rfl _ gb5.len now _ m1 m2 (by have := hc.1; omega) hc.2).mono ?_
    rintro e w6 ⟨rfl, hb6⟩
    have zb6 := ((zb3.but bu4 (by simp)).but bu5 (by simp)).to hb6
    have f6 := f5.trans (hb6.mono f5.size)
    have hl6 : GLen (movedD { d with mid := mid, turn := 2 } now) := ⟨hd.1, hd.2, HM.out⟩
    go_wp2_with (first
      | (refine wpl_gput zb6 zero_len hl6 rfl (by rfl) _ _ _ rfl rfl rfl info_g ?_
         intro w7 gb7 bu7))
    have ne : ∀ b, A1.map (·.block) = some b → w.heap.size + 3 ≤ b := fun b hb => by have := fr1 b hb; omega
    refine bodyPost_ret (results_blk2 Try.results38 rfl rfl gb7.blk Try.underlying42 rfl (info_game gb7.len)) rfl ?_
    rw [HS.out]
    refine ⟨A1, c1, rfl, ?_, f6.trans (below_but bu7 (by omega) f6.size), fun b hb => by have := ne b hb; omega, LE1.out⟩
    have s4 := sl3.but2 bu4 (fun b hb h => by injection h with h; have := ne b hb; omega)
    have s5 := s4.but2 bu5 (fun b hb h => by injection h with h; have := ne b hb; omega)
    exact (s5.to hb6).but2 bu7 (fun b hb h => by injection h with h; have := ne b hb; omega)
  · have hsay : sayD d mid now = (d, E) := by unfold sayD; rw [HE.out, if_neg h0]
    have HS := Lib.hid hsay
    have t0 : (E != 0) = true := by simpa using h0
    clear hsay h0
    go_wp2_with (first
      | (refine wpl_gload gb3 (by rfl) _ _ rfl rfl _ Try.underlying42 rfl info_g ?_)
      | (refine wpl_gput zb3 zero_len hd rfl (by rfl) _ _ _ rfl rfl rfl info_g ?_
         intro w7 gb7 bu7))
    have ne : ∀ b, A1.map (·.block) = some b → w.heap.size + 3 ≤ b := fun b hb => by have := fr1 b hb; omega
    refine bodyPost_ret (results_blk2 Try.results38 rfl rfl gb7.blk Try.underlying42 rfl (info_game gb7.len)) rfl ?_
    rw [HS.out]
    refine ⟨A1, c1, rfl, ?_, f3.trans (below_but bu7 (by omega) f3.size), fun b hb => by have := ne b hb; omega, LE1.out⟩
    exact sl3.but2 bu7 (fun b hb h => by injection h with h; have := ne b hb; omega)
end Go.Proofs.Ytdopgooglicaiaa
/- The walk of game.Choose. -/
set_option linter.unusedSimpArgs false
set_option linter.unusedVariables false
namespace Go.Proofs.Ytdopgooglicaiaa
open Go.RowKit
set_option maxRecDepth 100000
/-- what is left behind what was chosen -/
def halfD (d : GD) (right : Bool) : GD := if right then { d with lo := d.lo + (d.hi - d.lo) / 2, rlo := d.mid, mid := zero32 } else { d with hi := d.lo + (d.hi - d.lo) / 2, rhi := d.mid, mid := zero32 }
def chooseD (d : GD) (right : Bool) (now : Int) : GD × Int := if mayE d 2 now = 0 then (movedD (turnD (halfD d right)) now, 0) else (d, mayE d 2 now)
theorem built_zero : Try.prog.built 25 [] = some (B8 zero32).toArray := by kernel_rfl
set_option maxRecDepth 100000 in
set_option maxHeartbeats 2000000 in
theorem choose_any (A : Option Addr) (n c : Nat) (hs : List (List UInt8)) (d : GD) (hd : GLen d) (right : Bool) (now : Int) (w : World) (h : Sl w 32 A n (H8 hs)) (hn : n ≤ 4194304) (m1 : 0 ≤ d.moves) (m2 : d.moves ≤ 1099511627776) (l1 : 0 ≤ d.lo) (l2 : d.lo ≤ d.hi) (l3 : d.hi ≤ 1099511627776) :
    Calls Try.prog 46 #[gval (.slice A n c) d, .bool right, .int .i64 now] w (RGe w hs n (chooseD d right now)) := by
  obtain ⟨W, HW, hbw, gb, zb⟩ := box_game w (.slice A n c) d hd
  have hW := h.to hbw
  have hz := zb.lt
  obtain ⟨E, hE⟩ : ∃ E, mayE d 2 now = E := ⟨_, rfl⟩
  have HE := Lib.hid hE
  unfold gval
  go_enter Try.func46, Try.ntmps46
  go_upto_region 1 with fail
  refine wp_at HW.out ?_
  clear HW hE
  go_wp2_with (first
    | (refine wpl_gload gb (by rfl) _ _ rfl rfl _ Try.underlying42 rfl info_g ?_))
  refine (own_any A n c hs d hd W hW hn).mono ?_
  rintro e w1 ⟨A1, c1, rfl, sl1, hb1, fr1, le1⟩
  have LE1 := Lib.hid le1
  clear le1
  have gb1 := gb.to hb1
  have zb1 := zb.to hb1
  have f1 := hbw.trans (hb1.mono hbw.size)
  clear gb zb
  go_wp2_with (first
    | (refine wpl_gput gb1.blk (gcells_len gb1.len) hd rfl (by rfl) _ _ _ rfl rfl rfl info_g ?_
       intro w2 gb2 bu2)
    | (refine wpl_gload gb2 (by rfl) _ _ rfl rfl _ Try.underlying42 rfl info_g ?_))
  have f2 := f1.trans (below_but bu2 (Nat.le_refl _) f1.size)
  have sl2 := sl1.but2 bu2 (fun b hb h => by injection h with h; have := fr1 b hb; omega)
  have zb2 := zb1.but bu2 (by simp)
  refine (may_any (.slice A1 n c1) d hd 2 now w2).mono ?_
  rintro e w3 ⟨rfl, hb3⟩
  rw [HE.out]
  have gb3 := gb2.to hb3
  have zb3 := zb2.to hb3
  have sl3 := sl2.to hb3
  have f3 := f2.trans (hb3.mono f2.size)
  have ne : ∀ b, A1.map (·.block) = some b → w.heap.size + 2 ≤ b := fun b hb => by have := fr1 b hb; omega
  have NE := Lib.hid ne
  clear gb1 zb1 sl1 f1 bu2 hb1 zb2 sl2 hb3 gb2 fr1 ne
  by_cases h0 : E = 0
  · subst h0
    have hc := mayE_clock HE.out
    have hcd : chooseD d right now = (movedD (turnD (halfD d right)) now, 0) := by unfold chooseD; rw [if_pos HE.out]
    have HS := Lib.hid hcd
    clear hcd
    have c1' := gb3.c1
    have c2' := gb3.c2
    have u1 : 0 ≤ d.hi - d.lo := by omega
    have u2 : d.hi - d.lo ≤ 1099511627776 := by omega
    cases right
    · go_wp2_with (first
        | (refine wpl_load_fld (by rfl) _ _ rfl w.heap.size 67 rfl (B8 d.mid) _ gb3.r67 Try.underlying25 rfl (info_hash hd.mid) ?_)
        | (refine wpl_gset gb3 2 (p_hi _) (by exact ⟨gb3.len.1, gb3.len.2, gb3.len.3⟩) (by decide) (by rfl) _ _ _ rfl rfl rfl rfl (by kernel_rfl) rfl ?_
           intro w4 gb4 bu4
           clear c1' c2')
        | (refine wpl_gstore gb4 35 (p_rhi gb4.len d.mid hd.mid) (by exact ⟨gb4.len.1, hd.mid, gb4.len.3⟩) (by rfl) _ _ _ rfl rfl _ rfl rfl (by rw [B8_len, hd.mid]; omega) (info_hash hd.mid) (B8_one _) ?_
           intro w5 gb5 bu5)
        | (refine wpl_build (by rfl) _ _ rfl _ built_zero ?_)
        | (refine wpl_gstore gb5 67 (p_mid gb5.len zero32 rfl) (by exact ⟨gb5.len.1, gb5.len.2, rfl⟩) (by rfl) _ _ _ rfl rfl _ rfl rfl (by decide) (info_hash rfl) zero32_one ?_
           intro w6 gb6 bu6)
        | (refine wpl_gload gb6 (by rfl) _ _ rfl rfl _ Try.underlying42 rfl info_g ?_))
      have f4 := f3.trans (below_but bu4 (Nat.le_refl _) f3.size)
      have f5 := f4.trans (below_but bu5 (Nat.le_refl _) f4.size)
      have f6 := f5.trans (below_but bu6 (Nat.le_refl _) f5.size)
      have zb6 := ((zb3.but bu4 (by simp)).but bu5 (by simp)).but bu6 (by simp)
      have s4 := sl3.but2 bu4 (fun b hb h => by injection h with h; have := NE.out b hb; omega)
      have s5 := s4.but2 bu5 (fun b hb h => by injection h with h; have := NE.out b hb; omega)
      have s6 := s5.but2 bu6 (fun b hb h => by injection h with h; have := NE.out b hb; omega)
      clear bu4 bu5 bu6 f4 f5 s4 s5 gb3 gb4 gb5 sl3 f3 zb3
      refine (turn_any (.slice A1 n c1) rfl _ gb6.len _ (by dsimp only; omega) (by dsimp only; omega) (by dsimp only; omega) (by dsimp only; omega)).mono ?_
      rintro e w7 ⟨rfl, hb7⟩
      have hl7 : GLen (turnD (halfD d false)) := ⟨hd.1, hd.3, rfl⟩
      have zb7 := zb6.to hb7
      have f7 := f6.trans (hb7.mono f6.size)
      go_wp2_with fail
      refine (moved_any (.slice A1 n c1) rfl (turnD (halfD d false)) hl7 now _ m1 m2 (by have := hc.1; omega) hc.2).mono ?_
      rintro e w8 ⟨rfl, hb8⟩
      have zb8 := zb7.to hb8
      have f8 := f7.trans (hb8.mono f7.size)
      have hl8 : GLen (movedD (turnD (halfD d false)) now) := ⟨hd.1, hd.3, rfl⟩
      go_wp2_with (first
        | (refine wpl_gput zb8 zero_len hl8 rfl (by rfl) _ _ _ rfl rfl rfl info_g ?_
           intro w9 gb9 bu9))
      refine bodyPost_ret (results_blk2 Try.results46 rfl rfl gb9.blk Try.underlying42 rfl (info_game gb9.len)) rfl ?_
      rw [HS.out]
      refine ⟨A1, c1, rfl, ?_, f8.trans (below_but bu9 (by omega) f8.size), fun b hb => by have := NE.out b hb; omega, LE1.out⟩
      exact ((s6.to hb7).to hb8).but2 bu9 (fun b hb h => by injection h with h; have := NE.out b hb; omega)
    · go_wp2_with (first
        | (refine wpl_load_fld (by rfl) _ _ rfl w.heap.size 67 rfl (B8 d.mid) _ gb3.r67 Try.underlying25 rfl (info_hash hd.mid) ?_)
        | (refine wpl_gset gb3 1 (p_lo _) (by exact ⟨gb3.len.1, gb3.len.2, gb3.len.3⟩) (by decide) (by rfl) _ _ _ rfl rfl rfl rfl (by kernel_rfl) rfl ?_
           intro w4 gb4 bu4
           clear c1' c2')
        | (refine wpl_gstore gb4 3 (p_rlo gb4.len d.mid hd.mid) (by exact ⟨hd.mid, gb4.len.2, gb4.len.3⟩) (by rfl) _ _ _ rfl rfl _ rfl rfl (by rw [B8_len, hd.mid]; omega) (info_hash hd.mid) (B8_one _) ?_
           intro w5 gb5 bu5)
        | (refine wpl_build (by rfl) _ _ rfl _ built_zero ?_)
        | (refine wpl_gstore gb5 67 (p_mid gb5.len zero32 rfl) (by exact ⟨gb5.len.1, gb5.len.2, rfl⟩) (by rfl) _ _ _ rfl rfl _ rfl rfl (by decide) (info_hash rfl) zero32_one ?_
           intro w6 gb6 bu6)
        | (refine wpl_gload gb6 (by rfl) _ _ rfl rfl _ Try.underlying42 rfl info_g ?_))
      have f4 := f3.trans (below_but bu4 (Nat.le_refl _) f3.size)
      have f5 := f4.trans (below_but bu5 (Nat.le_refl _) f4.size)
      have f6 := f5.trans (below_but bu6 (Nat.le_refl _) f5.size)
      have zb6 := ((zb3.but bu4 (by simp)).but bu5 (by simp)).but bu6 (by simp)
      have s4 := sl3.but2 bu4 (fun b hb h => by injection h with h; have := NE.out b hb; omega)
      have s5 := s4.but2 bu5 (fun b hb h => by injection h with h; have := NE.out b hb; omega)
      have s6 := s5.but2 bu6 (fun b hb h => by injection h with h; have := NE.out b hb; omega)
      clear bu4 bu5 bu6 f4 f5 s4 s5 gb3 gb4 gb5 sl3 f3 zb3
      refine (turn_any (.slice A1 n c1) rfl _ gb6.len _ (by dsimp only; omega) (by dsimp only; omega) (by dsimp only; omega) (by dsimp only; omega)).mono ?_
      rintro e w7 ⟨rfl, hb7⟩
      have hl7 : GLen (turnD (halfD d true)) := ⟨hd.3, hd.2, rfl⟩
      have zb7 := zb6.to hb7
      have f7 := f6.trans (hb7.mono f6.size)
      go_wp2_with fail
      refine (moved_any (.slice A1 n c1) rfl (turnD (halfD d true)) hl7 now _ m1 m2 (by have := hc.1; omega) hc.2).mono ?_
      rintro e w8 ⟨rfl, hb8⟩
      have zb8 := zb7.to hb8
      have f8 := f7.trans (hb8.mono f7.size)
      have hl8 : GLen (movedD (turnD (halfD d true)) now) := ⟨hd.3, hd.2, rfl⟩
      go_wp2_with (first
        | (refine wpl_gput zb8 zero_len hl8 rfl (by rfl) _ _ _ rfl rfl rfl info_g ?_
           intro w9 gb9 bu9))
      refine bodyPost_ret (results_blk2 Try.results46 rfl rfl gb9.blk Try.underlying42 rfl (info_game gb9.len)) rfl ?_
      rw [HS.out]
      refine ⟨A1, c1, rfl, ?_, f8.trans (below_but bu9 (by omega) f8.size), fun b hb => by have := NE.out b hb; omega, LE1.out⟩
      exact ((s6.to hb7).to hb8).but2 bu9 (fun b hb h => by injection h with h; have := NE.out b hb; omega)
  · have hcd : chooseD d right now = (d, E) := by unfold chooseD; rw [HE.out, if_neg h0]
    have HS := Lib.hid hcd
    have t0 : (E != 0) = true := by simpa using h0
    clear hcd h0
    go_wp2_with (first
      | (refine wpl_gload gb3 (by rfl) _ _ rfl rfl _ Try.underlying42 rfl info_g ?_)
      | (refine wpl_gput zb3 zero_len hd rfl (by rfl) _ _ _ rfl rfl rfl info_g ?_
         intro w7 gb7 bu7))
    refine bodyPost_ret (results_blk2 Try.results46 rfl rfl gb7.blk Try.underlying42 rfl (info_game gb7.len)) rfl ?_
    rw [HS.out]
    refine ⟨A1, c1, rfl, ?_, f3.trans (below_but bu7 (by omega) f3.size), fun b hb => by have := NE.out b hb; omega, LE1.out⟩
    exact sl3.but2 bu7 (fun b hb h => by injection h with h; have := NE.out b hb; omega)
end Go.Proofs.Ytdopgooglicaiaa
