/- Words and laws on slices that read as lists, of whatever program. -/
import Derived.WalkKit
import Derived.Maps.AppendAt
import Derived.Deep.AppendLies
import Derived.Deep.Draws
import Derived.WalkLawsBesides
import Derived.WalkSpells
import Derived.BigQuiet
import Derived.Deep.QuietTactic
import Derived.Deep.LoopGhost
import Derived.Lib.Hide
set_option linter.unusedSimpArgs false
set_option linter.unusedVariables false
namespace Go.Proofs.Ytakebmpnbdlcoaa
open Go.RowKit
set_option maxRecDepth 100000

/-- The slice value '.slice A n c' reads as the cells xs ('size' cells an element). -/
structure Sl (w : World) (size : Nat) (A : Option Addr) (n : Nat) (xs : List Value) : Prop where
  len : xs.length = n * size
  cells : 0 < n → ∃ b o, A = some ⟨b, o, none⟩ ∧ b < w.heap.size ∧ ∀ j u, xs[j]? = some u → w.cell? ⟨b, o + j, none⟩ = some u

/-- The slice value '.slice A n c' owns the cells xs, in a block from number B on. -/
def Own (w : World) (B : Nat) (e : TypeId) (size : Nat) (A : Option Addr) (n c : Nat) (xs : List Value) : Prop := w.ownsRow B e size (.slice A n c) n xs

/-- The element type's row of the table. -/
structure El (P : Program) (t e : TypeId) (size bytes : Nat) : Prop where
  ht : P.underlying t = some (.slice e)
  hi : ∃ i z, P.info? e = some i ∧ i.zero = some z ∧ i.size = size ∧ i.bytes = bytes ∧ z.cells.size = size
  hsz : 0 < size

theorem El.mk' {P : Program} {t e : TypeId} {z : Value} {size bytes : Nat} (ht : P.underlying t = some (.slice e)) (h : (P.info? e).map (fun i => (i.zero, i.size, i.bytes)) = some (some z, size, bytes))
    (hz : z.cells.size = size) (hs : 0 < size) : El P t e size bytes := by
  obtain ⟨i, h1, h2, h3, h4⟩ := info_parts h
  exact ⟨ht, ⟨i, z, h1, h2, h3, h4, hz⟩, hs⟩

theorem add_off (b o j : Nat) : (⟨b, o, none⟩ : Addr).add j = ⟨b, o + j, none⟩ := by unfold Addr.add; split <;> simp_all

section
variable {w w' : World} {size n : Nat} {A : Option Addr} {xs : List Value}
theorem Sl.nil_ : Sl w size A 0 [] := ⟨by simp, fun h => absurd h (by omega)⟩
theorem Sl.keep (h : Sl w size A n xs) (hs : w.heap.size ≤ w'.heap.size) (hk : ∀ p : Addr, p.block < w.heap.size → w'.cell? p = w.cell? p) : Sl w' size A n xs :=
  ⟨h.len, fun hn => by
    obtain ⟨b, o, e, hb, hc⟩ := h.cells hn
    exact ⟨b, o, e, by omega, fun j u hu => (hk _ hb).trans (hc j u hu)⟩⟩
theorem Sl.below (h : Sl w size A n xs) {B : Nat} (hb : Below B w w') (hB : w.heap.size ≤ B) : Sl w' size A n xs := h.keep hb.size fun _ hp => hb.cell (by omega)
theorem Sl.to (h : Sl w size A n xs) (hb : Below w.heap.size w w') : Sl w' size A n xs := h.below hb (Nat.le_refl _)
theorem Sl.alloc (h : Sl w size A n xs) (o : Obj) : Sl (w.alloc o) size A n xs := h.to ((Below.refl _ _).alloc (Nat.le_refl _) o)
theorem Sl.drew (h : Sl w size A n xs) : Sl w.drew size A n xs := ⟨h.len, h.cells⟩
theorem Sl.drewN (h : Sl w size A n xs) (k : Nat) : Sl (w.drewN k) size A n xs := ⟨h.len, h.cells⟩
theorem Sl.cell {b o k : Nat} {u : Value} (h : Sl w size (some ⟨b, o, none⟩) n xs) (hk : xs[k]? = some u) : w.cell? ⟨b, o + k, none⟩ = some u := by
  have hlt : k < xs.length := by
    rcases Nat.lt_or_ge k xs.length with h | h
    · exact h
    · rw [List.getElem?_eq_none h] at hk; cases hk
  have hn : 0 < n := by
    rcases Nat.eq_zero_or_pos n with h0 | h0
    · rw [h.len, h0] at hlt; omega
    · exact h0
  obtain ⟨b', o', e, _, hc⟩ := h.cells hn
  simp only [Option.some.injEq, Addr.mk.injEq, and_true] at e
  obtain ⟨rfl, rfl⟩ := e
  exact hc k u hk
theorem Sl.range {b o : Nat} (h : Sl w size (some ⟨b, o, none⟩) n xs) : ∀ j v, xs[j]? = some v → w.cell? ⟨b, o + j, none⟩ = some v := fun j v hv => h.cell hv
theorem Sl.some_ (h : Sl w size A n xs) (hn : 0 < n) : ∃ b o, A = some ⟨b, o, none⟩ ∧ b < w.heap.size := by
  obtain ⟨b, o, e, hb, _⟩ := h.cells hn
  exact ⟨b, o, e, hb⟩
/-- One new block, just made, that holds the cells. -/
theorem Sl.new (w : World) (cs : Array Value) (e : TypeId) (fr : Nat × Nat) (n : Nat) (h : cs.size = n * size) : Sl (w.alloc (.cells cs e fr)) size (some ⟨w.heap.size, 0, none⟩) n cs.toList :=
  ⟨by simpa using h, fun _ => ⟨w.heap.size, 0, rfl, by simp, fun j u hu => by
    rw [Nat.zero_add, cell_of_row (w.alloc (.cells cs e fr)) w.heap.size j cs e fr (heap_alloc_new w _)]
    simpa using hu⟩⟩
theorem Own.sl {B c : Nat} {e : TypeId} (h : Own w B e size A n c xs) : Sl w size A n xs := by
  refine ⟨h.1, fun hn => ?_⟩
  obtain ⟨g, cap, hv, _, hlt⟩ := h.form hn
  have hA : A = some ⟨g, 0, none⟩ := by injection hv
  subst hA
  refine ⟨g, 0, rfl, hlt, fun j u hu => ?_⟩
  have := h.cells (g := g) rfl j u hu
  rwa [add_off] at this
theorem Own.nil_ {B : Nat} {e : TypeId} : Own w B e size none 0 0 [] := World.ownsRow_nil _ _ _ _
theorem Own.len {B c : Nat} {e : TypeId} (h : Own w B e size A n c xs) : xs.length = n * size := h.1
theorem Own.alloc {B c : Nat} {e : TypeId} (h : Own w B e size A n c xs) (o : Obj) : Own (w.alloc o) B e size A n c xs := World.ownsRow.alloc h o
theorem Own.drew {B c : Nat} {e : TypeId} (h : Own w B e size A n c xs) : Own w.drew B e size A n c xs := h
theorem Own.drewN {B c : Nat} {e : TypeId} (h : Own w B e size A n c xs) (k : Nat) : Own (w.drewN k) B e size A n c xs := h
theorem Own.lt {B c : Nat} {e : TypeId} (h : Own w B e size A n c xs) : ∀ k, A.map (·.block) = some k → B ≤ k ∧ k < w.heap.size := by
  intro k hk
  refine World.ownsRow.lt h k ?_
  cases A <;> simp_all [Value.ownBlock]
theorem Own.to {B c : Nat} {e : TypeId} (h : Own w B e size A n c xs) (hb : Below w.heap.size w w') : Own w' B e size A n c xs :=
  World.ownsRow.kept (row := none) h ⟨hb.os, hb.tape, hb.output, hb.size, fun k hk _ => hb.block k hk⟩ (by cases hv : (Value.slice A n c).ownBlock <;> simp)
theorem Own.mono {B B' c : Nat} {e : TypeId} (h : Own w B e size A n c xs) (hB : B' ≤ B) : Own w B' e size A n c xs := by
  refine ⟨h.1, ?_⟩
  rcases h.2 with h | ⟨g, cap, cur, hv, hg, rest⟩
  · exact .inl h
  · exact .inr ⟨g, cap, cur, hv, by omega, rest⟩
theorem Own.le {B c : Nat} {e : TypeId} (h : Own w B e size A n c xs) : n ≤ c ∧ c ≤ maxLen := by
  rcases h.2 with ⟨h, rfl⟩ | ⟨g, cap, cur, hv, _, _, h1, h2, _⟩
  · injection h; subst_vars; exact ⟨Nat.le_refl _, Nat.zero_le _⟩
  · injection hv; subst_vars; exact ⟨h1, h2⟩
theorem Own.made (w : World) (B : Nat) (e : TypeId) (cs : Array Value) (hB : B ≤ w.heap.size) (hm : n ≤ maxLen) (hs : cs.size = n * size) :
    Own (w.alloc (.cells cs e)) B e size (some ⟨w.heap.size, 0, none⟩) n n cs.toList :=
  World.ownsRow_lit w cs n hB hm hs
end

theorem blk_own (A : Option Addr) (n c : Nat) : (Value.slice A n c).ownBlock = A.map (·.block) := by cases A <;> rfl

section
variable {P : Program} (w : World)
theorem run_append_none (base : Nat) (t ty e : TypeId) (i : TypeInfo) (size : Nat) (ht : P.underlying t = some (.slice e)) (hi : P.info? e = some i)
    (v : Value) (n : Nat) (xs : List Value) (hown : w.ownsRow base e size v n xs) (c : Nat) : (Builtin.append_ #[t, t] ty #[v, .slice none 0 c]).run P w = .ok v w := by
  rcases hown.2 with ⟨rfl, rfl⟩ | ⟨g, cap, cur, rfl, _, _, hnc, _⟩
  · simp [Builtin.append_, run_underlying ht, sizeOf, typeInfo, hi, Builtin.lenOf, Builtin.firstCells]
  · simp [Builtin.append_, run_underlying ht, sizeOf, typeInfo, hi, Builtin.lenOf, Builtin.firstCells, hnc, storeCells]

/-- What an append onto a slice of the call's own leaves. -/
structure Grew (w w' : World) (base : Nat) (e : TypeId) (size : Nat) (A : Option Addr) (n c : Nat) (xs : List Value) (A' : Option Addr) (n' c' : Nat) (xs' : List Value) : Prop where
  own : Own w' base e size A' n' c' xs'
  old : Own w' base e size A n c xs
  grow : w.grownBy w' (A.map (·.block))
  pos : (A' = A ∧ c' = c) ∨ (A'.map (·.block) = some w.heap.size ∧ Below w.heap.size w w')
  nil : A' = none → A = none

theorem Grew.below {w w' : World} {base : Nat} {e : TypeId} {size : Nat} {A : Option Addr} {n c : Nat} {xs : List Value} {A' : Option Addr} {n' c' : Nat} {xs' : List Value} (h : Grew w w' base e size A n c xs A' n' c' xs')
    (ho : Own w base e size A n c xs) (hbase : base ≤ w.heap.size) : Below base w w' :=
  (Below.refl base w).grown h.grow hbase fun k hk => (ho.lt k hk).1

/-- append onto what the call owns, the source nil, empty or not. -/
theorem run_app {base : Nat} {t ty e : TypeId} {size bytes : Nat} (E : El P t e size bytes) {A : Option Addr} {n c : Nat} {xs : List Value} (hown : Own w base e size A n c xs)
    {A2 : Option Addr} {m c2 : Nat} {news : List Value} (hr : Sl w size A2 m news) (h1 : ∀ u ∈ news, u.oneCell' = true)
    (hb : (n + m) * bytes ≤ 140737488355328) (h63 : n + m ≤ 9223372036854775807) (hbase : base ≤ w.heap.size) :
    ∃ A' c' w', (Builtin.append_ #[t, t] ty #[.slice A n c, .slice A2 m c2]).run P w = .ok (.slice A' (n + m) c') w' ∧ Grew w w' base e size A n c xs A' (n + m) c' (xs ++ news) := by
  obtain ⟨i, z, hi, hz, hs, hby, hzs⟩ := E.hi
  subst hs
  subst hby
  have hm63 : n + m ≤ maxLen := by simp only [maxLen]; omega
  rcases A2 with _ | ad
  · have hm : m = 0 := by
      rcases Nat.eq_zero_or_pos m with h0 | h0
      · exact h0
      · obtain ⟨_, _, h, _⟩ := hr.cells h0
        cases h
    subst hm
    have hn : news = [] := List.eq_nil_of_length_eq_zero (by simpa using hr.len)
    subst hn
    exact ⟨A, c, w, run_append_none w base t ty e i _ E.ht hi _ n xs hown c2, by simpa using hown, hown, ⟨rfl, rfl, rfl, Nat.le_refl _, fun _ _ _ => rfl⟩, .inl ⟨rfl, rfl⟩, id⟩
  · have hcells : ∀ j u, news[j]? = some u → w.cell? (ad.add j) = some u := by
      intro j u hu
      rcases Nat.eq_zero_or_pos m with h0 | h0
      · subst h0
        have hn : news = [] := List.eq_nil_of_length_eq_zero (by simpa using hr.len)
        subst hn
        simp at hu
      · obtain ⟨b, o, h, _, hc⟩ := hr.cells h0
        injection h with h
        subst h
        rw [add_off]
        exact hc j u hu
    have hlen : (xs ++ news).length = (n + m) * i.size := by rw [List.length_append, hown.len, hr.len, Nat.add_mul]
    have grown : ∀ (old : Nat), old < n + m →
        Own (w.drew.alloc (.cells (xs.toArray ++ news.toArray ++ Builtin.zeroCells z.cells (grownCap w (n + m) old e - (n + m))) e)) base e i.size
          (some ⟨w.heap.size, 0, none⟩) (n + m) (grownCap w (n + m) old e) (xs ++ news) := by
      intro old ho
      refine ⟨hlen, .inr ⟨w.heap.size, _, _, rfl, hbase, heap_alloc_new w.drew _, grownCap_ge w (n + m) old e, grownCap_le_maxLen w (n + m) old e hm63, ?_, ?_⟩⟩
      · have hge := grownCap_ge w (n + m) old e
        simp only [Array.size_append, List.size_toArray, size_zeroCells, hzs, hown.len, hr.len, ← Nat.add_mul]
        congr 1
        omega
      · simp only [Array.toList_append, List.append_assoc]
        rw [← List.append_assoc, ← hlen]
        exact List.take_left
    have bel : ∀ o : Obj, Below w.heap.size w (w.drew.alloc o) := fun o => (Below.refl w.heap.size w).drew.alloc (Nat.le_refl _) o
    have fin : ∀ (old : Nat), old < n + m → Grew w (w.drew.alloc (.cells (xs.toArray ++ news.toArray ++ Builtin.zeroCells z.cells (grownCap w (n + m) old e - (n + m))) e)) base e i.size A n c xs
        (some ⟨w.heap.size, 0, none⟩) (n + m) (grownCap w (n + m) old e) (xs ++ news) := fun old ho =>
      ⟨grown old ho, hown.to (bel _), ⟨(bel _).os, (bel _).tape, (bel _).output, (bel _).size, fun k hk _ => (bel _).block k hk⟩, .inr ⟨rfl, bel _⟩, fun h => by cases h⟩
    have hown0 : w.ownsRow base e i.size (.slice A n c) n xs := hown
    rcases hown0.2 with ⟨hv, rfl⟩ | ⟨g, cap, cur, hv, hbg, hg, hnc, hcm, hcs, htake⟩
    · obtain ⟨rfl, rfl⟩ : A = none ∧ c = 0 := by injection hv; exact ⟨by assumption, by assumption⟩
      have hx : xs = [] := List.eq_nil_of_length_eq_zero (by simpa using hown.len)
      subst hx
      by_cases hm : m = 0
      · subst hm
        have hn : news = [] := List.eq_nil_of_length_eq_zero (by simpa using hr.len)
        subst hn
        refine ⟨none, 0, w, ?_, Own.nil_, Own.nil_, ⟨rfl, rfl, rfl, Nat.le_refl _, fun _ _ _ => rfl⟩, .inl ⟨rfl, rfl⟩, id⟩
        simp [Builtin.append_, run_underlying E.ht, sizeOf, typeInfo, hi, Builtin.lenOf, Builtin.firstCells, loadCells, loadCellsFrom]
      · have hrun := run_append_nil (P := P) w t ty e i z E.ht hi hz ad m c2 news hr.len hcells (by omega) (by omega) (by have hb := hb; simp only [Nat.zero_add] at hb; omega)
        have hgr := fin 0 (by omega)
        simp only [Nat.zero_add, List.nil_append, Array.empty_append] at hgr ⊢
        exact ⟨_, _, _, hrun, hgr⟩
    · obtain ⟨rfl, rfl⟩ : A = some ⟨g, 0, none⟩ ∧ c = cap := by injection hv; exact ⟨by assumption, by assumption⟩
      by_cases hroom : n + m ≤ c
      · have hfit : n * i.size + news.length ≤ cur.size := by rw [hr.len, hcs, ← Nat.add_mul]; exact Nat.mul_le_mul_right _ hroom
        have hrun := run_append_room (P := P) w t ty e i E.ht hi g n c cur hg ad m c2 news hr.len hcells h1 hroom hfit
        have hsz : (cur.toList.take (n * i.size) ++ news ++ cur.toList.drop (n * i.size + news.length)).length = c * i.size := by
          simp only [List.length_append, List.length_take, List.length_drop, Array.length_toList]
          omega
        refine ⟨_, _, _, hrun, ⟨hlen, .inr ⟨g, c, _, rfl, hbg, setRow_heap w g cur _ e _ hg, hroom, hcm, ?_, ?_⟩⟩, ⟨hown.len, .inr ⟨g, c, _, rfl, hbg, setRow_heap w g cur _ e _ hg, hnc, hcm, ?_, ?_⟩⟩,
          ⟨rfl, rfl, rfl, by simp, fun k _ hk => setRow_other w g k _ (fun e => hk (by simp [e]))⟩, .inl ⟨rfl, rfl⟩, id⟩
        · simpa using hsz
        · rw [htake, ← hlen]
          exact List.take_left
        · simpa using hsz
        · rw [htake, ← hown.len, List.append_assoc]
          exact List.take_left
      · have holds : ∀ j u, xs[j]? = some u → w.cell? ((⟨g, 0, none⟩ : Addr).add j) = some u := hown0.cells (g := g) rfl
        have hrun := run_append_grow (P := P) w t ty e i z E.ht hi hz ⟨g, 0, none⟩ n c xs hown.len holds ad m c2 news hr.len hcells (by omega) (by omega) (growslice_fits (by omega) hb)
        exact ⟨_, _, _, hrun, fin c (by omega)⟩

theorem wp_app {o : Oper} {a : Act} {K : Act → World → Prop} {Q : Exit → Act → World → Prop} (s x : Operand) (t : TypeId) {base : Nat} {e : TypeId} {size bytes : Nat} (E : El P t e size bytes)
    (ho : o.op = .call { callee := .builtin .append, args := #[s, x], argTypes := #[t, t] })
    {A : Option Addr} {n c : Nat} {xs : List Value} (hs : a.eval s = .slice A n c) (hown : Own w base e size A n c xs)
    {A2 : Option Addr} {m c2 : Nat} {news : List Value} (hx : a.eval x = .slice A2 m c2) (hr : Sl w size A2 m news) (h1 : ∀ u ∈ news, u.oneCell' = true)
    (hb : (n + m) * bytes ≤ 140737488355328) (h63 : n + m ≤ 9223372036854775807) (hbase : base ≤ w.heap.size)
    (h : ∀ A' c' w', Grew w w' base e size A n c xs A' (n + m) c' (xs ++ news) → K (a.put o.dst (.slice A' (n + m) c')) w') : o.wp P a w K Q := by
  obtain ⟨A', c', w', hrun, h2⟩ := run_app (P := P) (ty := o.type) w E hown (c2 := c2) hr h1 hb h63 hbase
  unfold Oper.wp execOp
  simp only [ho, resolve, invoke, builtin, Sem.run_bind, Sem.run_pure, Result.andThen_ok, List.map_toArray, List.map_cons, List.map_nil, hs, hx, hrun]
  exact h A' c' w' h2

theorem wpl_app {ops : Array Oper} {rest : List Oper} {o : Oper} {a : Act} {Q : Exit → Act → World → Prop} (s x : Operand) (t : TypeId) {base : Nat} {e : TypeId} {size bytes : Nat} (E : El P t e size bytes)
    (hgd : o.guard = none) (ho : o.op = .call { callee := .builtin .append, args := #[s, x], argTypes := #[t, t] })
    {A : Option Addr} {n c : Nat} {xs : List Value} (hs : a.eval s = .slice A n c) (hown : Own w base e size A n c xs)
    {A2 : Option Addr} {m c2 : Nat} {news : List Value} (hx : a.eval x = .slice A2 m c2) (hr : Sl w size A2 m news) (h1 : ∀ u ∈ news, u.oneCell' = true)
    (hb : (n + m) * bytes ≤ 140737488355328) (h63 : n + m ≤ 9223372036854775807) (hbase : base ≤ w.heap.size)
    (h : ∀ A' c' w', Grew w w' base e size A n c xs A' (n + m) c' (xs ++ news) → wpList P ops Q rest (a.put o.dst (.slice A' (n + m) c')) w') : wpList P ops Q (o :: rest) a w :=
  wpList_plain hgd fun _ hK => wp_app w s x t E ho hs hown hx hr h1 hb h63 hbase fun A' c' w' g => hK _ _ (h A' c' w' g)
end

/-- append of what a new block holds (one element written out, or some). -/
theorem wpl_push {P : Program} {w : World} {ops : Array Oper} {rest : List Oper} {o : Oper} {a : Act} {Q : Exit → Act → World → Prop} (s x : Operand) (t : TypeId) {base : Nat} {e e2 : TypeId} {fr : Nat × Nat} {size bytes : Nat} (E : El P t e size bytes)
    {cs : Array Value} (hgd : o.guard = none) (ho : o.op = .call { callee := .builtin .append, args := #[s, x], argTypes := #[t, t] })
    {A : Option Addr} {n c : Nat} {xs : List Value} (hs : a.eval s = .slice A n c) (hown : Own w base e size A n c xs)
    {m c2 : Nat} (hx : a.eval x = .slice (some ⟨w.heap.size, 0, none⟩) m c2) (hm : cs.size = m * size) (h1 : ∀ u ∈ cs.toList, u.oneCell' = true)
    (hb : (n + m) * bytes ≤ 140737488355328) (h63 : n + m ≤ 9223372036854775807) (hbase : base ≤ w.heap.size)
    (h : ∀ A' c' w', Grew (w.alloc (.cells cs e2 fr)) w' base e size A n c xs A' (n + m) c' (xs ++ cs.toList) → Below base w w' → w.grownBy w' (A.map (·.block)) →
      wpList P ops Q rest (a.put o.dst (.slice A' (n + m) c')) w') : wpList P ops Q (o :: rest) a (w.alloc (.cells cs e2 fr)) := by
  refine wpl_app _ s x t E hgd ho hs (hown.alloc _) hx (Sl.new w cs e2 fr m hm) h1 hb h63 (by simp; omega) fun A' c' w' g => ?_
  refine h A' c' w' g ?_ ?_
  · exact ((Below.refl base w).alloc hbase _).trans (g.below (hown.alloc _) (by simp; omega))
  · refine ⟨g.grow.os, g.grow.tape, g.grow.output, Nat.le_trans (by simp) g.grow.size, fun k hk hne => ?_⟩
    rw [g.grow.block k (by simp; omega) hne]
    exact heap_alloc_old w _ hk

theorem Own.none_ {w w' : World} {B : Nat} {e : TypeId} {size n c : Nat} {xs : List Value} (h : Own w B e size none n c xs) : Own w' B e size none n c xs := by
  refine ⟨h.1, ?_⟩
  rcases h.2 with h | ⟨g, cap, cur, hv, _⟩
  · exact .inl h
  · cases hv
theorem Own.pre {w : World} {B : Nat} {e : TypeId} {size n n' c : Nat} {A : Option Addr} {xs : List Value} (h : Own w B e size A n' c xs) (hn : n ≤ n') (hA : A ≠ none) : Own w B e size A n c (xs.take (n * size)) := by
  have hl : n * size ≤ n' * size := Nat.mul_le_mul_right _ hn
  refine ⟨by rw [List.length_take, h.len]; omega, ?_⟩
  rcases h.2 with ⟨h, _⟩ | ⟨g, cap, cur, hv, hB, hg, h1, h2, h3, h4⟩
  · injection h; exact absurd (by assumption) hA
  · refine .inr ⟨g, cap, cur, ?_, hB, hg, by omega, h2, h3, ?_⟩
    · injection hv; subst_vars; rfl
    · rw [← h4, List.take_take, Nat.min_eq_left hl]
theorem Own.kept2 {w w' : World} {B : Nat} {e : TypeId} {size n c : Nat} {A : Option Addr} {xs : List Value} {row : Option Nat} (h : Own w B e size A n c xs) (hg : w.grownBy w' row) (hne : A.map (·.block) = none ∨ A.map (·.block) ≠ row) : Own w' B e size A n c xs :=
  World.ownsRow.kept h hg (by rw [blk_own]; exact hne)

/-- From w0 to w the slice (A', n', c') has come out of (A, n, c) by appends. -/
structure Onto (w0 w : World) (B : Nat) (e : TypeId) (size : Nat) (A : Option Addr) (n c : Nat) (xs : List Value) (A' : Option Addr) (n' c' : Nat) (xs' : List Value) : Prop where
  start : Own w0 B e size A n c xs
  own : Own w B e size A' n' c' xs'
  old : Own w B e size A n c xs
  grow : w0.grownBy w (A.map (·.block))
  pos : (A' = A ∧ c' = c ∧ n ≤ n' ∧ xs'.take (n * size) = xs) ∨ (∃ g, A'.map (·.block) = some g ∧ w0.heap.size ≤ g)

section
variable {w0 w w' : World} {B : Nat} {e : TypeId} {size n c n' c' : Nat} {A A' : Option Addr} {xs xs' : List Value}
theorem grown_of_below (h : Below w.heap.size w w') (row : Option Nat) : w.grownBy w' row := ⟨h.os, h.tape, h.output, h.size, fun k hk _ => h.block k hk⟩
theorem grown_trans' {r r' : Option Nat} (h : w0.grownBy w r) (k : w.grownBy w' r') (hr : ∀ j, r' = some j → r = some j ∨ w0.heap.size ≤ j) : w0.grownBy w' r :=
  ⟨k.os.trans h.os, k.tape.trans h.tape, k.output.trans h.output, Nat.le_trans h.size k.size, fun i hi hne => (k.block i (Nat.lt_of_lt_of_le hi h.size) (fun e => by
    rcases hr i e.symm with h1 | h1
    · exact hne h1.symm
    · omega)).trans (h.block i hi hne)⟩
theorem Onto.refl (h : Own w B e size A n c xs) : Onto w w B e size A n c xs A n c xs :=
  ⟨h, h, h, ⟨rfl, rfl, rfl, Nat.le_refl _, fun _ _ _ => rfl⟩, .inl ⟨rfl, rfl, Nat.le_refl _, List.take_of_length_le (Nat.le_of_eq h.len)⟩⟩
theorem Onto.below (h : Onto w0 w B e size A n c xs A' n' c' xs') (hb : Below w.heap.size w w') : Onto w0 w' B e size A n c xs A' n' c' xs' :=
  ⟨h.start, h.own.to hb, h.old.to hb, grown_trans' h.grow (grown_of_below hb none) (by simp), h.pos⟩
theorem Onto.bel (h : Onto w0 w B e size A n c xs A' n' c' xs') (hB : B ≤ w0.heap.size) : Below B w0 w := (Below.refl B w0).grown h.grow hB fun k hk => (h.start.lt k hk).1
theorem Onto.alloc (h : Onto w0 w B e size A n c xs A' n' c' xs') (o : Obj) : Onto w0 (w.alloc o) B e size A n c xs A' n' c' xs' := h.below ((Below.refl _ _).alloc (Nat.le_refl _) o)
theorem Onto.step {A2 : Option Addr} {n2 c2 : Nat} {ys : List Value} (h : Onto w0 w B e size A n c xs A' n' c' xs') (g : Grew w w' B e size A' n' c' xs' A2 n2 c2 (xs' ++ ys)) (hn : n' ≤ n2) : Onto w0 w' B e size A n c xs A2 n2 c2 (xs' ++ ys) := by
  have hrow : ∀ j, A'.map (·.block) = some j → A.map (·.block) = some j ∨ w0.heap.size ≤ j := by
    intro j hj
    rcases h.pos with ⟨rfl, _⟩ | ⟨g0, h0, h1⟩
    · exact .inl hj
    · rw [h0] at hj; injection hj; omega
  have hgrow := grown_trans' h.grow g.grow hrow
  rcases g.pos with ⟨rfl, rfl⟩ | ⟨hA2, hb⟩
  · rcases h.pos with ⟨rfl, rfl, hle, htake⟩ | ⟨g0, h0, h1⟩
    · have ht : (xs' ++ ys).take (n * size) = xs := by
        rw [List.take_append_of_le_length (by rw [h.own.len]; exact Nat.mul_le_mul_right _ hle)]
        exact htake
      refine ⟨h.start, g.own, ?_, hgrow, .inl ⟨rfl, rfl, by omega, ht⟩⟩
      rcases hA : A2 with _ | ad
      · rw [hA] at h
        exact h.old.none_
      · have := g.own.pre (n := n) (by omega) (by rw [hA]; simp)
        rw [ht] at this
        rw [← hA]
        exact this
    · refine ⟨h.start, g.own, h.old.kept2 g.grow ?_, hgrow, .inr ⟨g0, h0, h1⟩⟩
      rw [h0]
      right
      intro hA
      have := (h.start.lt g0 hA).2
      omega
  · exact ⟨h.start, g.own, h.old.to hb, hgrow, .inr ⟨_, hA2, h.grow.size⟩⟩
end

/-- What a step that grew one row of the call's own leaves of old memory. -/
theorem below_grown {B : Nat} {a w w' : World} {row : Option Nat} (h : Below B a w) (hg : w.grownBy w' row) (hB : B ≤ w.heap.size) (hr : ∀ k, row = some k → B ≤ k) : Below B a w' := h.grown hg hB hr

/-- A call that hands back a slice of its own. -/
def RSl (w : World) (e : TypeId) (size : Nat) (xs : List Value) (en : Ending) (w' : World) : Prop :=
  ∃ A n c, en = .returned (.slice A n c) ∧ Own w' w.heap.size e size A n c xs ∧ Below w.heap.size w w'

theorem RSl.mk {w w' : World} {e : TypeId} {size n : Nat} {xs : List Value} {A : Option Addr} {c : Nat} (h1 : Own w' w.heap.size e size A n c xs) (h2 : Below w.heap.size w w') :
    RSl w e size xs (.returned (.slice A n c)) w' := ⟨A, n, c, rfl, h1, h2⟩

/-- Bytes as values. -/
def b8 (c : UInt8) : Value := .int .u8 (c.toNat : Int)
def B8 (l : List UInt8) : List Value := l.map b8
theorem B8_len (l : List UInt8) : (B8 l).length = l.length := by simp [B8]
theorem B8_app (a b : List UInt8) : B8 (a ++ b) = B8 a ++ B8 b := by simp [B8]
theorem B8_one (l : List UInt8) : ∀ u ∈ B8 l, u.oneCell' = true := by
  intro u hu
  obtain ⟨c, _, rfl⟩ := List.mem_map.1 hu
  rfl
theorem B8_get (l : List UInt8) (k : Nat) (h : k < l.length) : (B8 l)[k]? = some (.int .u8 (l[k].toNat : Int)) := by
  simp [B8, b8, h]

theorem Sl.len8 {w : World} {A : Option Addr} {n : Nat} {l : List UInt8} (h : Sl w 1 A n (B8 l)) : n = l.length := by have := h.len; rw [B8_len] at this; omega
theorem Own.len8 {w : World} {B c : Nat} {e : TypeId} {A : Option Addr} {n : Nat} {l : List UInt8} (h : Own w B e 1 A n c (B8 l)) : n = l.length := h.sl.len8

/-- append of one byte. -/
theorem wpl_push8 {P : Program} {w : World} {ops : Array Oper} {rest : List Oper} {o : Oper} {a : Act} {Q : Exit → Act → World → Prop} (s x : Operand) (t : TypeId) {base : Nat} {e e2 : TypeId} {fr : Nat × Nat} (E : El P t e 1 1)
    {y : Int} (hgd : o.guard = none) (ho : o.op = .call { callee := .builtin .append, args := #[s, x], argTypes := #[t, t] })
    {A : Option Addr} {n c : Nat} {pre : List UInt8} (hs : a.eval s = .slice A n c) (hown : Own w base e 1 A n c (B8 pre))
    {c2 : Nat} (hx : a.eval x = .slice (some ⟨w.heap.size, 0, none⟩) 1 c2) (y8 : UInt8) (hy : y = (y8.toNat : Int))
    (hb : n < 140737488355328) (hbase : base ≤ w.heap.size)
    (h : ∀ A' c' w', Own w' base e 1 A' (n + 1) c' (B8 (pre ++ [y8])) → Below base w w' → Grew (w.alloc (.cells #[.int .u8 y] e2 fr)) w' base e 1 A n c (B8 pre) A' (n + 1) c' (B8 (pre ++ [y8])) → w.grownBy w' (A.map (·.block)) →
      wpList P ops Q rest (a.put o.dst (.slice A' (n + 1) c')) w') : wpList P ops Q (o :: rest) a (w.alloc (.cells #[.int .u8 y] e2 fr)) := by
  subst hy
  refine wpl_push s x t E (cs := #[.int .u8 (y8.toNat : Int)]) hgd ho hs hown hx rfl (by intro u hu; simp at hu; subst hu; rfl) (by omega) (by omega) hbase fun A' c' w' g g2 g3 => ?_
  have e1 : B8 (pre ++ [y8]) = B8 pre ++ [Value.int .u8 (y8.toNat : Int)] := by rw [B8_app]; rfl
  exact h A' c' w' (by rw [e1]; exact g.own) g2 (by rw [e1]; exact g) g3

theorem Sl.at8 {w : World} {A : Option Addr} {n : Nat} {l : List UInt8} (h : Sl w 1 A n (B8 l)) (hn : 0 < n) :
    ∃ b o, A = some ⟨b, o, none⟩ ∧ b < w.heap.size ∧ ∀ (k : Nat) (x : UInt8), l[k]? = some x → w.cell? ⟨b, o + k, none⟩ = some (.int .u8 (x.toNat : Int)) := by
  obtain ⟨b, o, e, hb, hc⟩ := h.cells hn
  exact ⟨b, o, e, hb, fun k x hx => hc k _ (by simp [B8, hx, b8])⟩
theorem Own.at8 {w : World} {B c : Nat} {e : TypeId} {A : Option Addr} {n : Nat} {l : List UInt8} (h : Own w B e 1 A n c (B8 l)) (hn : 0 < n) :
    ∃ b, A = some ⟨b, 0, none⟩ ∧ B ≤ b ∧ b < w.heap.size ∧ ∀ (k : Nat) (x : UInt8), l[k]? = some x → w.cell? ⟨b, k, none⟩ = some (.int .u8 (x.toNat : Int)) := by
  obtain ⟨g, cap, hv, hB, hlt⟩ := h.form hn
  have hA : A = some ⟨g, 0, none⟩ := by injection hv
  subst hA
  refine ⟨g, rfl, hB, hlt, fun k x hx => ?_⟩
  have := h.sl.cell (k := k) (u := .int .u8 (x.toNat : Int)) (by simp [B8, hx, b8])
  simpa using this

/-- A call that hands back a bool and leaves old memory alone. -/
def RB (b : Bool) (w : World) (en : Ending) (w' : World) : Prop := en = .returned (.bool b) ∧ Below w.heap.size w w'

/-- a sum as a value -/
def hv (h : List UInt8) : Value := .agg (B8 h).toArray
theorem ret_int {k : IntKind} {a b : Int} (h : a = b) : Ending.returned (.int k a) = .returned (.int k b) := by rw [h]

end Go.Proofs.Ytakebmpnbdlcoaa
