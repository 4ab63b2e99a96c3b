/- The texts of this claim, part A: words, plain laws, walks. -/
import Derived.WalkKit
import Derived.Maps.AppendAt
import Derived.Deep.AppendLies
import Derived.Deep.Draws
import Derived.WalkLawsBesides
import Derived.WalkSpells
import Derived.BigQuiet
import Derived.Deep.QuietTactic
import Derived.Deep.LoopGhost
import Derived.Lib.Hide
import Derived.ProofKit
import Derived.OpenShut
import Derived.ShutString
import Derived.Deep.Slices
import Derived.SizedLaws
import Derived.OrdersHeld
import Derived.Deep.RegionHeld
import Derived.Deep.MidRow
import Derived.ChangeKeysEq
/- Words and laws on slices that read as lists, of whatever program. -/
set_option linter.unusedSimpArgs false
set_option linter.unusedVariables false
namespace Go.Proofs.Ytdopgooglicaiaa
open Go.RowKit
set_option maxRecDepth 100000

/-- The slice value '.slice A n c' reads as the cells xs ('size' cells an element). -/
structure Sl (w : World) (size : Nat) (A : Option Addr) (n : Nat) (xs : List Value) : Prop where
  len : xs.length = n * size
  cells : 0 < n → ∃ b o, A = some ⟨b, o, none⟩ ∧ b < w.heap.size ∧ ∀ j u, xs[j]? = some u → w.cell? ⟨b, o + j, none⟩ = some u

/-- The slice value '.slice A n c' owns the cells xs, in a block from number B on. -/
def Own (w : World) (B : Nat) (e : TypeId) (size : Nat) (A : Option Addr) (n c : Nat) (xs : List Value) : Prop := w.ownsRow B e size (.slice A n c) n xs

/-- The element type's row of the table. -/
structure El (P : Program) (t e : TypeId) (size bytes : Nat) : Prop where
  ht : P.underlying t = some (.slice e)
  hi : ∃ i z, P.info? e = some i ∧ i.zero = some z ∧ i.size = size ∧ i.bytes = bytes ∧ z.cells.size = size
  hsz : 0 < size

theorem El.mk' {P : Program} {t e : TypeId} {z : Value} {size bytes : Nat} (ht : P.underlying t = some (.slice e)) (h : (P.info? e).map (fun i => (i.zero, i.size, i.bytes)) = some (some z, size, bytes))
    (hz : z.cells.size = size) (hs : 0 < size) : El P t e size bytes := by
  obtain ⟨i, h1, h2, h3, h4⟩ := info_parts h
  exact ⟨ht, ⟨i, z, h1, h2, h3, h4, hz⟩, hs⟩

theorem add_off (b o j : Nat) : (⟨b, o, none⟩ : Addr).add j = ⟨b, o + j, none⟩ := by unfold Addr.add; split <;> simp_all

section
variable {w w' : World} {size n : Nat} {A : Option Addr} {xs : List Value}
theorem Sl.nil_ : Sl w size A 0 [] := ⟨by simp, fun h => absurd h (by omega)⟩
theorem Sl.keep (h : Sl w size A n xs) (hs : w.heap.size ≤ w'.heap.size) (hk : ∀ p : Addr, p.block < w.heap.size → w'.cell? p = w.cell? p) : Sl w' size A n xs :=
  ⟨h.len, fun hn => by
    obtain ⟨b, o, e, hb, hc⟩ := h.cells hn
    exact ⟨b, o, e, by omega, fun j u hu => (hk _ hb).trans (hc j u hu)⟩⟩
theorem Sl.below (h : Sl w size A n xs) {B : Nat} (hb : Below B w w') (hB : w.heap.size ≤ B) : Sl w' size A n xs := h.keep hb.size fun _ hp => hb.cell (by omega)
theorem Sl.to (h : Sl w size A n xs) (hb : Below w.heap.size w w') : Sl w' size A n xs := h.below hb (Nat.le_refl _)
theorem Sl.alloc (h : Sl w size A n xs) (o : Obj) : Sl (w.alloc o) size A n xs := h.to ((Below.refl _ _).alloc (Nat.le_refl _) o)
theorem Sl.drew (h : Sl w size A n xs) : Sl w.drew size A n xs := ⟨h.len, h.cells⟩
theorem Sl.drewN (h : Sl w size A n xs) (k : Nat) : Sl (w.drewN k) size A n xs := ⟨h.len, h.cells⟩
theorem Sl.cell {b o k : Nat} {u : Value} (h : Sl w size (some ⟨b, o, none⟩) n xs) (hk : xs[k]? = some u) : w.cell? ⟨b, o + k, none⟩ = some u := by
  have hlt : k < xs.length := by
    rcases Nat.lt_or_ge k xs.length with h | h
    · exact h
    · rw [List.getElem?_eq_none h] at hk; cases hk
  have hn : 0 < n := by
    rcases Nat.eq_zero_or_pos n with h0 | h0
    · rw [h.len, h0] at hlt; omega
    · exact h0
  obtain ⟨b', o', e, _, hc⟩ := h.cells hn
  simp only [Option.some.injEq, Addr.mk.injEq, and_true] at e
  obtain ⟨rfl, rfl⟩ := e
  exact hc k u hk
theorem Sl.range {b o : Nat} (h : Sl w size (some ⟨b, o, none⟩) n xs) : ∀ j v, xs[j]? = some v → w.cell? ⟨b, o + j, none⟩ = some v := fun j v hv => h.cell hv
theorem Sl.some_ (h : Sl w size A n xs) (hn : 0 < n) : ∃ b o, A = some ⟨b, o, none⟩ ∧ b < w.heap.size := by
  obtain ⟨b, o, e, hb, _⟩ := h.cells hn
  exact ⟨b, o, e, hb⟩
/-- One new block, just made, that holds the cells. -/
theorem Sl.new (w : World) (cs : Array Value) (e : TypeId) (fr : Nat × Nat) (n : Nat) (h : cs.size = n * size) : Sl (w.alloc (.cells cs e fr)) size (some ⟨w.heap.size, 0, none⟩) n cs.toList :=
  ⟨by simpa using h, fun _ => ⟨w.heap.size, 0, rfl, by simp, fun j u hu => by
    rw [Nat.zero_add, cell_of_row (w.alloc (.cells cs e fr)) w.heap.size j cs e fr (heap_alloc_new w _)]
    simpa using hu⟩⟩
theorem Own.sl {B c : Nat} {e : TypeId} (h : Own w B e size A n c xs) : Sl w size A n xs := by
  refine ⟨h.1, fun hn => ?_⟩
  obtain ⟨g, cap, hv, _, hlt⟩ := h.form hn
  have hA : A = some ⟨g, 0, none⟩ := by injection hv
  subst hA
  refine ⟨g, 0, rfl, hlt, fun j u hu => ?_⟩
  have := h.cells (g := g) rfl j u hu
  rwa [add_off] at this
theorem Own.nil_ {B : Nat} {e : TypeId} : Own w B e size none 0 0 [] := World.ownsRow_nil _ _ _ _
theorem Own.len {B c : Nat} {e : TypeId} (h : Own w B e size A n c xs) : xs.length = n * size := h.1
theorem Own.alloc {B c : Nat} {e : TypeId} (h : Own w B e size A n c xs) (o : Obj) : Own (w.alloc o) B e size A n c xs := World.ownsRow.alloc h o
theorem Own.drew {B c : Nat} {e : TypeId} (h : Own w B e size A n c xs) : Own w.drew B e size A n c xs := h
theorem Own.drewN {B c : Nat} {e : TypeId} (h : Own w B e size A n c xs) (k : Nat) : Own (w.drewN k) B e size A n c xs := h
theorem Own.lt {B c : Nat} {e : TypeId} (h : Own w B e size A n c xs) : ∀ k, A.map (·.block) = some k → B ≤ k ∧ k < w.heap.size := by
  intro k hk
  refine World.ownsRow.lt h k ?_
  cases A <;> simp_all [Value.ownBlock]
theorem Own.to {B c : Nat} {e : TypeId} (h : Own w B e size A n c xs) (hb : Below w.heap.size w w') : Own w' B e size A n c xs :=
  World.ownsRow.kept (row := none) h ⟨hb.os, hb.tape, hb.output, hb.size, fun k hk _ => hb.block k hk⟩ (by cases hv : (Value.slice A n c).ownBlock <;> simp)
theorem Own.mono {B B' c : Nat} {e : TypeId} (h : Own w B e size A n c xs) (hB : B' ≤ B) : Own w B' e size A n c xs := by
  refine ⟨h.1, ?_⟩
  rcases h.2 with h | ⟨g, cap, cur, hv, hg, rest⟩
  · exact .inl h
  · exact .inr ⟨g, cap, cur, hv, by omega, rest⟩
theorem Own.le {B c : Nat} {e : TypeId} (h : Own w B e size A n c xs) : n ≤ c ∧ c ≤ maxLen := by
  rcases h.2 with ⟨h, rfl⟩ | ⟨g, cap, cur, hv, _, _, h1, h2, _⟩
  · injection h; subst_vars; exact ⟨Nat.le_refl _, Nat.zero_le _⟩
  · injection hv; subst_vars; exact ⟨h1, h2⟩
theorem Own.made (w : World) (B : Nat) (e : TypeId) (cs : Array Value) (hB : B ≤ w.heap.size) (hm : n ≤ maxLen) (hs : cs.size = n * size) :
    Own (w.alloc (.cells cs e)) B e size (some ⟨w.heap.size, 0, none⟩) n n cs.toList :=
  World.ownsRow_lit w cs n hB hm hs
end

theorem blk_own (A : Option Addr) (n c : Nat) : (Value.slice A n c).ownBlock = A.map (·.block) := by cases A <;> rfl

section
variable {P : Program} (w : World)
theorem run_append_none (base : Nat) (t ty e : TypeId) (i : TypeInfo) (size : Nat) (ht : P.underlying t = some (.slice e)) (hi : P.info? e = some i)
    (v : Value) (n : Nat) (xs : List Value) (hown : w.ownsRow base e size v n xs) (c : Nat) : (Builtin.append_ #[t, t] ty #[v, .slice none 0 c]).run P w = .ok v w := by
  rcases hown.2 with ⟨rfl, rfl⟩ | ⟨g, cap, cur, rfl, _, _, hnc, _⟩
  · simp [Builtin.append_, run_underlying ht, sizeOf, typeInfo, hi, Builtin.lenOf, Builtin.firstCells]
  · simp [Builtin.append_, run_underlying ht, sizeOf, typeInfo, hi, Builtin.lenOf, Builtin.firstCells, hnc, storeCells]

/-- What an append onto a slice of the call's own leaves. -/
structure Grew (w w' : World) (base : Nat) (e : TypeId) (size : Nat) (A : Option Addr) (n c : Nat) (xs : List Value) (A' : Option Addr) (n' c' : Nat) (xs' : List Value) : Prop where
  own : Own w' base e size A' n' c' xs'
  old : Own w' base e size A n c xs
  grow : w.grownBy w' (A.map (·.block))
  pos : (A' = A ∧ c' = c) ∨ (A'.map (·.block) = some w.heap.size ∧ Below w.heap.size w w')
  nil : A' = none → A = none

theorem Grew.below {w w' : World} {base : Nat} {e : TypeId} {size : Nat} {A : Option Addr} {n c : Nat} {xs : List Value} {A' : Option Addr} {n' c' : Nat} {xs' : List Value} (h : Grew w w' base e size A n c xs A' n' c' xs')
    (ho : Own w base e size A n c xs) (hbase : base ≤ w.heap.size) : Below base w w' :=
  (Below.refl base w).grown h.grow hbase fun k hk => (ho.lt k hk).1

/-- append onto what the call owns, the source nil, empty or not. -/
theorem run_app {base : Nat} {t ty e : TypeId} {size bytes : Nat} (E : El P t e size bytes) {A : Option Addr} {n c : Nat} {xs : List Value} (hown : Own w base e size A n c xs)
    {A2 : Option Addr} {m c2 : Nat} {news : List Value} (hr : Sl w size A2 m news) (h1 : ∀ u ∈ news, u.oneCell' = true)
    (hb : (n + m) * bytes ≤ 140737488355328) (h63 : n + m ≤ 9223372036854775807) (hbase : base ≤ w.heap.size) :
    ∃ A' c' w', (Builtin.append_ #[t, t] ty #[.slice A n c, .slice A2 m c2]).run P w = .ok (.slice A' (n + m) c') w' ∧ Grew w w' base e size A n c xs A' (n + m) c' (xs ++ news) := by
  obtain ⟨i, z, hi, hz, hs, hby, hzs⟩ := E.hi
  subst hs
  subst hby
  have hm63 : n + m ≤ maxLen := by simp only [maxLen]; omega
  rcases A2 with _ | ad
  · have hm : m = 0 := by
      rcases Nat.eq_zero_or_pos m with h0 | h0
      · exact h0
      · obtain ⟨_, _, h, _⟩ := hr.cells h0
        cases h
    subst hm
    have hn : news = [] := List.eq_nil_of_length_eq_zero (by simpa using hr.len)
    subst hn
    exact ⟨A, c, w, run_append_none w base t ty e i _ E.ht hi _ n xs hown c2, by simpa using hown, hown, ⟨rfl, rfl, rfl, Nat.le_refl _, fun _ _ _ => rfl⟩, .inl ⟨rfl, rfl⟩, id⟩
  · have hcells : ∀ j u, news[j]? = some u → w.cell? (ad.add j) = some u := by
      intro j u hu
      rcases Nat.eq_zero_or_pos m with h0 | h0
      · subst h0
        have hn : news = [] := List.eq_nil_of_length_eq_zero (by simpa using hr.len)
        subst hn
        simp at hu
      · obtain ⟨b, o, h, _, hc⟩ := hr.cells h0
        injection h with h
        subst h
        rw [add_off]
        exact hc j u hu
    have hlen : (xs ++ news).length = (n + m) * i.size := by rw [List.length_append, hown.len, hr.len, Nat.add_mul]
    have grown : ∀ (old : Nat), old < n + m →
        Own (w.drew.alloc (.cells (xs.toArray ++ news.toArray ++ Builtin.zeroCells z.cells (grownCap w (n + m) old e - (n + m))) e)) base e i.size
          (some ⟨w.heap.size, 0, none⟩) (n + m) (grownCap w (n + m) old e) (xs ++ news) := by
      intro old ho
      refine ⟨hlen, .inr ⟨w.heap.size, _, _, rfl, hbase, heap_alloc_new w.drew _, grownCap_ge w (n + m) old e, grownCap_le_maxLen w (n + m) old e hm63, ?_, ?_⟩⟩
      · have hge := grownCap_ge w (n + m) old e
        simp only [Array.size_append, List.size_toArray, size_zeroCells, hzs, hown.len, hr.len, ← Nat.add_mul]
        congr 1
        omega
      · simp only [Array.toList_append, List.append_assoc]
        rw [← List.append_assoc, ← hlen]
        exact List.take_left
    have bel : ∀ o : Obj, Below w.heap.size w (w.drew.alloc o) := fun o => (Below.refl w.heap.size w).drew.alloc (Nat.le_refl _) o
    have fin : ∀ (old : Nat), old < n + m → Grew w (w.drew.alloc (.cells (xs.toArray ++ news.toArray ++ Builtin.zeroCells z.cells (grownCap w (n + m) old e - (n + m))) e)) base e i.size A n c xs
        (some ⟨w.heap.size, 0, none⟩) (n + m) (grownCap w (n + m) old e) (xs ++ news) := fun old ho =>
      ⟨grown old ho, hown.to (bel _), ⟨(bel _).os, (bel _).tape, (bel _).output, (bel _).size, fun k hk _ => (bel _).block k hk⟩, .inr ⟨rfl, bel _⟩, fun h => by cases h⟩
    have hown0 : w.ownsRow base e i.size (.slice A n c) n xs := hown
    rcases hown0.2 with ⟨hv, rfl⟩ | ⟨g, cap, cur, hv, hbg, hg, hnc, hcm, hcs, htake⟩
    · obtain ⟨rfl, rfl⟩ : A = none ∧ c = 0 := by injection hv; exact ⟨by assumption, by assumption⟩
      have hx : xs = [] := List.eq_nil_of_length_eq_zero (by simpa using hown.len)
      subst hx
      by_cases hm : m = 0
      · subst hm
        have hn : news = [] := List.eq_nil_of_length_eq_zero (by simpa using hr.len)
        subst hn
        refine ⟨none, 0, w, ?_, Own.nil_, Own.nil_, ⟨rfl, rfl, rfl, Nat.le_refl _, fun _ _ _ => rfl⟩, .inl ⟨rfl, rfl⟩, id⟩
        simp [Builtin.append_, run_underlying E.ht, sizeOf, typeInfo, hi, Builtin.lenOf, Builtin.firstCells, loadCells, loadCellsFrom]
      · have hrun := run_append_nil (P := P) w t ty e i z E.ht hi hz ad m c2 news hr.len hcells (by omega) (by omega) (by have hb := hb; simp only [Nat.zero_add] at hb; omega)
        have hgr := fin 0 (by omega)
        simp only [Nat.zero_add, List.nil_append, Array.empty_append] at hgr ⊢
        exact ⟨_, _, _, hrun, hgr⟩
    · obtain ⟨rfl, rfl⟩ : A = some ⟨g, 0, none⟩ ∧ c = cap := by injection hv; exact ⟨by assumption, by assumption⟩
      by_cases hroom : n + m ≤ c
      · have hfit : n * i.size + news.length ≤ cur.size := by rw [hr.len, hcs, ← Nat.add_mul]; exact Nat.mul_le_mul_right _ hroom
        have hrun := run_append_room (P := P) w t ty e i E.ht hi g n c cur hg ad m c2 news hr.len hcells h1 hroom hfit
        have hsz : (cur.toList.take (n * i.size) ++ news ++ cur.toList.drop (n * i.size + news.length)).length = c * i.size := by
          simp only [List.length_append, List.length_take, List.length_drop, Array.length_toList]
          omega
        refine ⟨_, _, _, hrun, ⟨hlen, .inr ⟨g, c, _, rfl, hbg, setRow_heap w g cur _ e _ hg, hroom, hcm, ?_, ?_⟩⟩, ⟨hown.len, .inr ⟨g, c, _, rfl, hbg, setRow_heap w g cur _ e _ hg, hnc, hcm, ?_, ?_⟩⟩,
          ⟨rfl, rfl, rfl, by simp, fun k _ hk => setRow_other w g k _ (fun e => hk (by simp [e]))⟩, .inl ⟨rfl, rfl⟩, id⟩
        · simpa using hsz
        · rw [htake, ← hlen]
          exact List.take_left
        · simpa using hsz
        · rw [htake, ← hown.len, List.append_assoc]
          exact List.take_left
      · have holds : ∀ j u, xs[j]? = some u → w.cell? ((⟨g, 0, none⟩ : Addr).add j) = some u := hown0.cells (g := g) rfl
        have hrun := run_append_grow (P := P) w t ty e i z E.ht hi hz ⟨g, 0, none⟩ n c xs hown.len holds ad m c2 news hr.len hcells (by omega) (by omega) (growslice_fits (by omega) hb)
        exact ⟨_, _, _, hrun, fin c (by omega)⟩

theorem wp_app {o : Oper} {a : Act} {K : Act → World → Prop} {Q : Exit → Act → World → Prop} (s x : Operand) (t : TypeId) {base : Nat} {e : TypeId} {size bytes : Nat} (E : El P t e size bytes)
    (ho : o.op = .call { callee := .builtin .append, args := #[s, x], argTypes := #[t, t] })
    {A : Option Addr} {n c : Nat} {xs : List Value} (hs : a.eval s = .slice A n c) (hown : Own w base e size A n c xs)
    {A2 : Option Addr} {m c2 : Nat} {news : List Value} (hx : a.eval x = .slice A2 m c2) (hr : Sl w size A2 m news) (h1 : ∀ u ∈ news, u.oneCell' = true)
    (hb : (n + m) * bytes ≤ 140737488355328) (h63 : n + m ≤ 9223372036854775807) (hbase : base ≤ w.heap.size)
    (h : ∀ A' c' w', Grew w w' base e size A n c xs A' (n + m) c' (xs ++ news) → K (a.put o.dst (.slice A' (n + m) c')) w') : o.wp P a w K Q := by
  obtain ⟨A', c', w', hrun, h2⟩ := run_app (P := P) (ty := o.type) w E hown (c2 := c2) hr h1 hb h63 hbase
  unfold Oper.wp execOp
  simp only [ho, resolve, invoke, builtin, Sem.run_bind, Sem.run_pure, Result.andThen_ok, List.map_toArray, List.map_cons, List.map_nil, hs, hx, hrun]
  exact h A' c' w' h2

theorem wpl_app {ops : Array Oper} {rest : List Oper} {o : Oper} {a : Act} {Q : Exit → Act → World → Prop} (s x : Operand) (t : TypeId) {base : Nat} {e : TypeId} {size bytes : Nat} (E : El P t e size bytes)
    (hgd : o.guard = none) (ho : o.op = .call { callee := .builtin .append, args := #[s, x], argTypes := #[t, t] })
    {A : Option Addr} {n c : Nat} {xs : List Value} (hs : a.eval s = .slice A n c) (hown : Own w base e size A n c xs)
    {A2 : Option Addr} {m c2 : Nat} {news : List Value} (hx : a.eval x = .slice A2 m c2) (hr : Sl w size A2 m news) (h1 : ∀ u ∈ news, u.oneCell' = true)
    (hb : (n + m) * bytes ≤ 140737488355328) (h63 : n + m ≤ 9223372036854775807) (hbase : base ≤ w.heap.size)
    (h : ∀ A' c' w', Grew w w' base e size A n c xs A' (n + m) c' (xs ++ news) → wpList P ops Q rest (a.put o.dst (.slice A' (n + m) c')) w') : wpList P ops Q (o :: rest) a w :=
  wpList_plain hgd fun _ hK => wp_app w s x t E ho hs hown hx hr h1 hb h63 hbase fun A' c' w' g => hK _ _ (h A' c' w' g)
end

/-- append of what a new block holds (one element written out, or some). -/
theorem wpl_push {P : Program} {w : World} {ops : Array Oper} {rest : List Oper} {o : Oper} {a : Act} {Q : Exit → Act → World → Prop} (s x : Operand) (t : TypeId) {base : Nat} {e e2 : TypeId} {fr : Nat × Nat} {size bytes : Nat} (E : El P t e size bytes)
    {cs : Array Value} (hgd : o.guard = none) (ho : o.op = .call { callee := .builtin .append, args := #[s, x], argTypes := #[t, t] })
    {A : Option Addr} {n c : Nat} {xs : List Value} (hs : a.eval s = .slice A n c) (hown : Own w base e size A n c xs)
    {m c2 : Nat} (hx : a.eval x = .slice (some ⟨w.heap.size, 0, none⟩) m c2) (hm : cs.size = m * size) (h1 : ∀ u ∈ cs.toList, u.oneCell' = true)
    (hb : (n + m) * bytes ≤ 140737488355328) (h63 : n + m ≤ 9223372036854775807) (hbase : base ≤ w.heap.size)
    (h : ∀ A' c' w', Grew (w.alloc (.cells cs e2 fr)) w' base e size A n c xs A' (n + m) c' (xs ++ cs.toList) → Below base w w' → w.grownBy w' (A.map (·.block)) →
      wpList P ops Q rest (a.put o.dst (.slice A' (n + m) c')) w') : wpList P ops Q (o :: rest) a (w.alloc (.cells cs e2 fr)) := by
  refine wpl_app _ s x t E hgd ho hs (hown.alloc _) hx (Sl.new w cs e2 fr m hm) h1 hb h63 (by simp; omega) fun A' c' w' g => ?_
  refine h A' c' w' g ?_ ?_
  · exact ((Below.refl base w).alloc hbase _).trans (g.below (hown.alloc _) (by simp; omega))
  · refine ⟨g.grow.os, g.grow.tape, g.grow.output, Nat.le_trans (by simp) g.grow.size, fun k hk hne => ?_⟩
    rw [g.grow.block k (by simp; omega) hne]
    exact heap_alloc_old w _ hk

theorem Own.none_ {w w' : World} {B : Nat} {e : TypeId} {size n c : Nat} {xs : List Value} (h : Own w B e size none n c xs) : Own w' B e size none n c xs := by
  refine ⟨h.1, ?_⟩
  rcases h.2 with h | ⟨g, cap, cur, hv, _⟩
  · exact .inl h
  · cases hv
theorem Own.pre {w : World} {B : Nat} {e : TypeId} {size n n' c : Nat} {A : Option Addr} {xs : List Value} (h : Own w B e size A n' c xs) (hn : n ≤ n') (hA : A ≠ none) : Own w B e size A n c (xs.take (n * size)) := by
  have hl : n * size ≤ n' * size := Nat.mul_le_mul_right _ hn
  refine ⟨by rw [List.length_take, h.len]; omega, ?_⟩
  rcases h.2 with ⟨h, _⟩ | ⟨g, cap, cur, hv, hB, hg, h1, h2, h3, h4⟩
  · injection h; exact absurd (by assumption) hA
  · refine .inr ⟨g, cap, cur, ?_, hB, hg, by omega, h2, h3, ?_⟩
    · injection hv; subst_vars; rfl
    · rw [← h4, List.take_take, Nat.min_eq_left hl]
theorem Own.kept2 {w w' : World} {B : Nat} {e : TypeId} {size n c : Nat} {A : Option Addr} {xs : List Value} {row : Option Nat} (h : Own w B e size A n c xs) (hg : w.grownBy w' row) (hne : A.map (·.block) = none ∨ A.map (·.block) ≠ row) : Own w' B e size A n c xs :=
  World.ownsRow.kept h hg (by rw [blk_own]; exact hne)

/-- From w0 to w the slice (A', n', c') has come out of (A, n, c) by appends. -/
structure Onto (w0 w : World) (B : Nat) (e : TypeId) (size : Nat) (A : Option Addr) (n c : Nat) (xs : List Value) (A' : Option Addr) (n' c' : Nat) (xs' : List Value) : Prop where
  start : Own w0 B e size A n c xs
  own : Own w B e size A' n' c' xs'
  old : Own w B e size A n c xs
  grow : w0.grownBy w (A.map (·.block))
  pos : (A' = A ∧ c' = c ∧ n ≤ n' ∧ xs'.take (n * size) = xs) ∨ (∃ g, A'.map (·.block) = some g ∧ w0.heap.size ≤ g)

section
variable {w0 w w' : World} {B : Nat} {e : TypeId} {size n c n' c' : Nat} {A A' : Option Addr} {xs xs' : List Value}
theorem grown_of_below (h : Below w.heap.size w w') (row : Option Nat) : w.grownBy w' row := ⟨h.os, h.tape, h.output, h.size, fun k hk _ => h.block k hk⟩
theorem grown_trans' {r r' : Option Nat} (h : w0.grownBy w r) (k : w.grownBy w' r') (hr : ∀ j, r' = some j → r = some j ∨ w0.heap.size ≤ j) : w0.grownBy w' r :=
  ⟨k.os.trans h.os, k.tape.trans h.tape, k.output.trans h.output, Nat.le_trans h.size k.size, fun i hi hne => (k.block i (Nat.lt_of_lt_of_le hi h.size) (fun e => by
    rcases hr i e.symm with h1 | h1
    · exact hne h1.symm
    · omega)).trans (h.block i hi hne)⟩
theorem Onto.refl (h : Own w B e size A n c xs) : Onto w w B e size A n c xs A n c xs :=
  ⟨h, h, h, ⟨rfl, rfl, rfl, Nat.le_refl _, fun _ _ _ => rfl⟩, .inl ⟨rfl, rfl, Nat.le_refl _, List.take_of_length_le (Nat.le_of_eq h.len)⟩⟩
theorem Onto.below (h : Onto w0 w B e size A n c xs A' n' c' xs') (hb : Below w.heap.size w w') : Onto w0 w' B e size A n c xs A' n' c' xs' :=
  ⟨h.start, h.own.to hb, h.old.to hb, grown_trans' h.grow (grown_of_below hb none) (by simp), h.pos⟩
theorem Onto.bel (h : Onto w0 w B e size A n c xs A' n' c' xs') (hB : B ≤ w0.heap.size) : Below B w0 w := (Below.refl B w0).grown h.grow hB fun k hk => (h.start.lt k hk).1
theorem Onto.alloc (h : Onto w0 w B e size A n c xs A' n' c' xs') (o : Obj) : Onto w0 (w.alloc o) B e size A n c xs A' n' c' xs' := h.below ((Below.refl _ _).alloc (Nat.le_refl _) o)
theorem Onto.step {A2 : Option Addr} {n2 c2 : Nat} {ys : List Value} (h : Onto w0 w B e size A n c xs A' n' c' xs') (g : Grew w w' B e size A' n' c' xs' A2 n2 c2 (xs' ++ ys)) (hn : n' ≤ n2) : Onto w0 w' B e size A n c xs A2 n2 c2 (xs' ++ ys) := by
  have hrow : ∀ j, A'.map (·.block) = some j → A.map (·.block) = some j ∨ w0.heap.size ≤ j := by
    intro j hj
    rcases h.pos with ⟨rfl, _⟩ | ⟨g0, h0, h1⟩
    · exact .inl hj
    · rw [h0] at hj; injection hj; omega
  have hgrow := grown_trans' h.grow g.grow hrow
  rcases g.pos with ⟨rfl, rfl⟩ | ⟨hA2, hb⟩
  · rcases h.pos with ⟨rfl, rfl, hle, htake⟩ | ⟨g0, h0, h1⟩
    · have ht : (xs' ++ ys).take (n * size) = xs := by
        rw [List.take_append_of_le_length (by rw [h.own.len]; exact Nat.mul_le_mul_right _ hle)]
        exact htake
      refine ⟨h.start, g.own, ?_, hgrow, .inl ⟨rfl, rfl, by omega, ht⟩⟩
      rcases hA : A2 with _ | ad
      · rw [hA] at h
        exact h.old.none_
      · have := g.own.pre (n := n) (by omega) (by rw [hA]; simp)
        rw [ht] at this
        rw [← hA]
        exact this
    · refine ⟨h.start, g.own, h.old.kept2 g.grow ?_, hgrow, .inr ⟨g0, h0, h1⟩⟩
      rw [h0]
      right
      intro hA
      have := (h.start.lt g0 hA).2
      omega
  · exact ⟨h.start, g.own, h.old.to hb, hgrow, .inr ⟨_, hA2, h.grow.size⟩⟩
end

/-- What a step that grew one row of the call's own leaves of old memory. -/
theorem below_grown {B : Nat} {a w w' : World} {row : Option Nat} (h : Below B a w) (hg : w.grownBy w' row) (hB : B ≤ w.heap.size) (hr : ∀ k, row = some k → B ≤ k) : Below B a w' := h.grown hg hB hr

/-- A call that hands back a slice of its own. -/
def RSl (w : World) (e : TypeId) (size : Nat) (xs : List Value) (en : Ending) (w' : World) : Prop :=
  ∃ A n c, en = .returned (.slice A n c) ∧ Own w' w.heap.size e size A n c xs ∧ Below w.heap.size w w'

theorem RSl.mk {w w' : World} {e : TypeId} {size n : Nat} {xs : List Value} {A : Option Addr} {c : Nat} (h1 : Own w' w.heap.size e size A n c xs) (h2 : Below w.heap.size w w') :
    RSl w e size xs (.returned (.slice A n c)) w' := ⟨A, n, c, rfl, h1, h2⟩

/-- Bytes as values. -/
def b8 (c : UInt8) : Value := .int .u8 (c.toNat : Int)
def B8 (l : List UInt8) : List Value := l.map b8
theorem B8_len (l : List UInt8) : (B8 l).length = l.length := by simp [B8]
theorem B8_app (a b : List UInt8) : B8 (a ++ b) = B8 a ++ B8 b := by simp [B8]
theorem B8_one (l : List UInt8) : ∀ u ∈ B8 l, u.oneCell' = true := by
  intro u hu
  obtain ⟨c, _, rfl⟩ := List.mem_map.1 hu
  rfl
theorem B8_get (l : List UInt8) (k : Nat) (h : k < l.length) : (B8 l)[k]? = some (.int .u8 (l[k].toNat : Int)) := by
  simp [B8, b8, h]

theorem Sl.len8 {w : World} {A : Option Addr} {n : Nat} {l : List UInt8} (h : Sl w 1 A n (B8 l)) : n = l.length := by have := h.len; rw [B8_len] at this; omega
theorem Own.len8 {w : World} {B c : Nat} {e : TypeId} {A : Option Addr} {n : Nat} {l : List UInt8} (h : Own w B e 1 A n c (B8 l)) : n = l.length := h.sl.len8

/-- append of one byte. -/
theorem wpl_push8 {P : Program} {w : World} {ops : Array Oper} {rest : List Oper} {o : Oper} {a : Act} {Q : Exit → Act → World → Prop} (s x : Operand) (t : TypeId) {base : Nat} {e e2 : TypeId} {fr : Nat × Nat} (E : El P t e 1 1)
    {y : Int} (hgd : o.guard = none) (ho : o.op = .call { callee := .builtin .append, args := #[s, x], argTypes := #[t, t] })
    {A : Option Addr} {n c : Nat} {pre : List UInt8} (hs : a.eval s = .slice A n c) (hown : Own w base e 1 A n c (B8 pre))
    {c2 : Nat} (hx : a.eval x = .slice (some ⟨w.heap.size, 0, none⟩) 1 c2) (y8 : UInt8) (hy : y = (y8.toNat : Int))
    (hb : n < 140737488355328) (hbase : base ≤ w.heap.size)
    (h : ∀ A' c' w', Own w' base e 1 A' (n + 1) c' (B8 (pre ++ [y8])) → Below base w w' → Grew (w.alloc (.cells #[.int .u8 y] e2 fr)) w' base e 1 A n c (B8 pre) A' (n + 1) c' (B8 (pre ++ [y8])) → w.grownBy w' (A.map (·.block)) →
      wpList P ops Q rest (a.put o.dst (.slice A' (n + 1) c')) w') : wpList P ops Q (o :: rest) a (w.alloc (.cells #[.int .u8 y] e2 fr)) := by
  subst hy
  refine wpl_push s x t E (cs := #[.int .u8 (y8.toNat : Int)]) hgd ho hs hown hx rfl (by intro u hu; simp at hu; subst hu; rfl) (by omega) (by omega) hbase fun A' c' w' g g2 g3 => ?_
  have e1 : B8 (pre ++ [y8]) = B8 pre ++ [Value.int .u8 (y8.toNat : Int)] := by rw [B8_app]; rfl
  exact h A' c' w' (by rw [e1]; exact g.own) g2 (by rw [e1]; exact g) g3

theorem Sl.at8 {w : World} {A : Option Addr} {n : Nat} {l : List UInt8} (h : Sl w 1 A n (B8 l)) (hn : 0 < n) :
    ∃ b o, A = some ⟨b, o, none⟩ ∧ b < w.heap.size ∧ ∀ (k : Nat) (x : UInt8), l[k]? = some x → w.cell? ⟨b, o + k, none⟩ = some (.int .u8 (x.toNat : Int)) := by
  obtain ⟨b, o, e, hb, hc⟩ := h.cells hn
  exact ⟨b, o, e, hb, fun k x hx => hc k _ (by simp [B8, hx, b8])⟩
theorem Own.at8 {w : World} {B c : Nat} {e : TypeId} {A : Option Addr} {n : Nat} {l : List UInt8} (h : Own w B e 1 A n c (B8 l)) (hn : 0 < n) :
    ∃ b, A = some ⟨b, 0, none⟩ ∧ B ≤ b ∧ b < w.heap.size ∧ ∀ (k : Nat) (x : UInt8), l[k]? = some x → w.cell? ⟨b, k, none⟩ = some (.int .u8 (x.toNat : Int)) := by
  obtain ⟨g, cap, hv, hB, hlt⟩ := h.form hn
  have hA : A = some ⟨g, 0, none⟩ := by injection hv
  subst hA
  refine ⟨g, rfl, hB, hlt, fun k x hx => ?_⟩
  have := h.sl.cell (k := k) (u := .int .u8 (x.toNat : Int)) (by simp [B8, hx, b8])
  simpa using this

/-- A call that hands back a bool and leaves old memory alone. -/
def RB (b : Bool) (w : World) (en : Ending) (w' : World) : Prop := en = .returned (.bool b) ∧ Below w.heap.size w w'

/-- a sum as a value -/
def hv (h : List UInt8) : Value := .agg (B8 h).toArray
theorem ret_int {k : IntKind} {a b : Int} (h : a = b) : Ending.returned (.int k a) = .returned (.int k b) := by rw [h]

end Go.Proofs.Ytdopgooglicaiaa
/- How a law's arguments read, and what its row asks; of whatever program. -/
set_option linter.unusedSimpArgs false
set_option linter.unusedVariables false
namespace Go.Proofs.Ytdopgooglicaiaa
open Go.ChangeShapes Go.WideShapes Go.ChangeAt Go.RowKit
open Go.ChangeMaps (open_string shut_string)

section
variable {H : Type} {enc : TypeId × Value → H} {P : Program} {W W' : World}

theorem trodAll_stays (hl : laidOutB P = true) : ∀ (ts : List TypeId) (vs : List Value) (ds : List (DataW H)) (p : List MemPlace), ts.all (fun t => P.readableRec t && decide (t < P.types.size)) = true →
    DataW.TrodAll enc P W 0 (fun _ => true) true ts vs ds p → Below W.heap.size W W' → DataW.TrodAll enc P W' 0 (fun b => decide (b < W.heap.size)) true ts vs ds p
  | [], [], [], _, _, h, _ => h
  | t :: ts, v :: vs, d :: ds, _, ht, ⟨p, q, h1, h2, e⟩, hb => by
    simp only [List.all_cons, Bool.and_eq_true, decide_eq_true_eq] at ht
    have lt0 : ∀ x ∈ p, x.block < W.heap.size := by obtain ⟨m, hm⟩ := h1; exact DataW.trod_lt m _ _ _ hm
    exact ⟨p, q, Below.trod hl ht.1.1 ht.1.2 h1 hb lt0, trodAll_stays hl ts vs ds q (by simpa using ht.2) h2 hb, e⟩
  | [], [], _ :: _, _, _, h, _ => by cases h
  | [], _ :: _, _, _, _, h, _ => by cases h
  | _ :: _, [], _, _, _, h, _ => by cases h
  | _ :: _, _ :: _, [], _, _, h, _ => by cases h

theorem trodAll_length : ∀ (ts : List TypeId) (vs : List Value) (ds : List (DataW H)) (p : List MemPlace), DataW.TrodAll enc P W 0 (fun _ => true) true ts vs ds p → ds.length = ts.length
  | [], [], [], _, _ => rfl
  | t :: ts, v :: vs, d :: ds, _, ⟨p, q, h1, h2, e⟩ => by simp [trodAll_length ts vs ds q h2]
  | [], [], _ :: _, _, h => by cases h
  | [], _ :: _, _, _, h => by cases h
  | _ :: _, [], _, _, h => by cases h
  | _ :: _, _ :: _, [], _, h => by cases h

/-- The specification of a law: true; each argument reads as it did. -/
def LawSpec (s : ChangeSpec) (n : Nat) : Prop := s.vars = [] ∧ ∀ (H : Type) (ds : List (DataW H)), ds.length = n → (s.fn H (ds ++ [])) = { results := [.lit (.bool true)], args := ds, vars := [] }

theorem law_lift {C : Checked} {os : Os} {f : FuncId} {fn : Func} {s : ChangeSpec} {n : Nat} (hs : LawSpec s n) (hn : fn.params.size = n) (tb : TypeId) (hres : fn.resultTypes = #[tb]) (htb : C.prog.underlying tb = some .bool)
    (hl : laidOutB C.prog = true) (hr : fn.params.toList.all (fun t => C.prog.readableRec t && decide (t < C.prog.types.size)) = true)
    (own : ownKnob C.prog.godebug = none) (started : os.Started) (noInit : C.prog.inits.idxOf? f = none) (hfn : C.prog.funcs[f]? = some fn)
    (witness : ∃ (w : World) (tape : Tape) (i : Input), w.os = os ∧ (w.forCall tape i).Shaped C.prog ∧ i.vars = [] ∧ Input.okWide C.prog (w.forCall tape i) .any w.heap.size f i ∧
      s.pre6 enc C.prog fn [] false (w.forCall tape i).memory i.args ∧ ({} : Assume).holds C.prog (lone (Frame.enter C.prog f i.args .normal) [] (w.forCall tape i)))
    (walk : ∀ (W : World) (base : Nat) (vs : List Value) (ds : List (DataW H)) (p : List MemPlace), (∀ (j : Nat) t v, fn.params.toList[j]? = some t → vs[j]? = some v → Value.okWide C.prog W .any base t v) →
      DataW.TrodAll enc C.prog W 0 (fun _ => true) true fn.params.toList vs ds p → Calls C.prog f vs.toArray W (RB true W)) :
    ReturnsInHanded {} C os f .any (s.pre6 enc C.prog fn [] false) (s.post enc C.prog fn false true false false) := by
  refine returnsInHanded_of_change (C := C) own started noInit hfn witness ?_
  intro W base args ds gs before hval hW _ _
  have hW' := hW
  obtain ⟨p, q, hA, hV, rfl, hfz, hnd⟩ := hW
  rw [hs.1] at hV
  obtain ⟨rfl, rfl⟩ := trodVars_none hV
  have hlen : ds.length = n := by rw [trodAll_length _ _ _ _ hA, ← hn]; simp
  obtain ⟨args⟩ := args
  refine (walk W base args ds p (fun j t v h1 h2 => hval j t v (by simpa using h1) (by simpa using h2)) hA).mono fun e W' ⟨he, bel⟩ => ?_
  subst he
  refine ⟨_, rfl, ds, [], _, [], p, [], hW', ?_, ?_, ?_, bel.frame _, fun h => by cases h⟩
  · rw [hs.2 H ds hlen, hres]
    exact trodAll_cons_mk (shut_bool htb _) trodAll_mk0
  · rw [hs.2 H ds hlen]
    exact trodAll_stays hl _ _ _ _ hr hA bel
  · rw [hs.2 H ds hlen, hs.1]
    rfl

theorem trodAll_one' {t : TypeId} {vs : List Value} {ds : List (DataW H)} {p : List MemPlace} {ts : List TypeId} (h : DataW.TrodAll enc P W 0 (fun _ => true) true (t :: ts) vs ds p) :
    ∃ v vs' d ds' p' q, vs = v :: vs' ∧ DataW.Trod enc P W 0 (fun _ => true) true t v d p' ∧ DataW.TrodAll enc P W 0 (fun _ => true) true ts vs' ds' q := by
  match vs, ds, h with
  | v :: vs', d :: ds', ⟨p', q, h1, h2, _⟩ => exact ⟨v, vs', d, ds', p', q, rfl, h1, h2⟩
theorem trodAll_nil' {vs : List Value} {ds : List (DataW H)} {p : List MemPlace} (h : DataW.TrodAll enc P W 0 (fun _ => true) true [] vs ds p) : vs = [] := by
  match vs, ds, h with
  | [], [], _ => rfl

/-! ### arguments, by type -/
theorem arg_int {t : TypeId} {v : Value} {d : DataW H} {p : List MemPlace} {r : Reach} {base : Nat} (ht : P.underlying t = some (.int .i64)) (hv : Value.okWide P W r base t v)
    (h : DataW.Trod enc P W 0 (fun _ => true) true t v d p) : ∃ a : Int, v = .int .i64 a ∧ -9223372036854775808 ≤ a ∧ a < 9223372036854775808 := by
  obtain ⟨a, rfl, rfl, rfl, w⟩ := open_int ht hv h
  refine ⟨a, rfl, ?_⟩
  simp [Lit.wf, IntKind.min, IntKind.max, IntKind.signed, IntKind.bits] at w
  omega

theorem of_u8 (zs : List Int) (h : ∀ n ∈ zs, (Lit.int .u8 n).wf = true) : ∃ bs : List UInt8, zs = bs.map (fun c => (c.toNat : Int)) := by
  refine ⟨zs.map (fun z => UInt8.ofNat z.toNat), ?_⟩
  rw [List.map_map]
  conv => lhs; rw [← List.map_id zs]
  refine List.map_congr_left fun z hz => ?_
  have := h z hz
  simp [Lit.wf, IntKind.min, IntKind.max, IntKind.signed, IntKind.bits] at this
  simp only [id, Function.comp, UInt8.toNat_ofNat']
  omega

theorem arg_bytes {t e : TypeId} {v : Value} {d : DataW H} {p : List MemPlace} {r : Reach} {base : Nat} (ht : P.underlying t = some (.slice e)) (he : P.underlying e = some (.int .u8)) (hc : P.cellsOf e = 1)
    (hv : Value.okWide P W r base t v) (h : DataW.Trod enc P W 0 (fun _ => true) true t v d p) :
    ∃ (A : Option Addr) (n c : Nat) (bs : List UInt8), v = .slice A n c ∧ n ≤ c ∧ c ≤ maxLen ∧ Sl W 1 A n (B8 bs) := by
  obtain ⟨A, n, c, rfl⟩ := okWide_slice ht hv
  obtain ⟨fuel, hf⟩ := h
  rcases open_ints ht he hc hf with ⟨hcs, _⟩ | ⟨x, l, c', zs, hcs, _, hl, hm, hz, _, hcell, hwz⟩
  · simp [Value.cells] at hcs
    obtain ⟨rfl, rfl, rfl⟩ := hcs
    exact ⟨none, 0, 0, [], rfl, Nat.le_refl _, Nat.zero_le _, Sl.nil_⟩
  · simp [Value.cells] at hcs
    obtain ⟨rfl, rfl, rfl⟩ := hcs
    simp only [if_true] at hz
    obtain ⟨bs, rfl⟩ := of_u8 zs hwz
    refine ⟨some x, n, c, bs.take n, rfl, hl, hm, ⟨by simp [B8] at hz ⊢; omega, fun hn => ?_⟩⟩
    have h0 := hcell 0 (by omega)
    have hsp : x.spot = none := by
      have hz0 : x.add 0 = x := by simp [Addr.add]
      rw [hz0] at h0
      unfold World.cell? at h0
      split at h0
      · split at h0
        · cases h0
        · rename_i hns; cases hx : x.spot with | none => rfl | some _ => rw [hx] at hns; exact absurd rfl hns
      · cases h0
    obtain ⟨b, o, sp⟩ := x
    simp only at hsp
    subst hsp
    refine ⟨b, o, rfl, World.block_lt_of_cell? W _ h0, fun j u hu => ?_⟩
    have hlen : bs.length = c := by simpa using hz
    rw [B8, List.map_take, List.getElem?_take] at hu
    split at hu
    · have hj := hcell j (by simp; omega)
      rw [add_off] at hj
      rw [hj]
      rw [← hu]
      simp only [List.getD_eq_getElem?_getD, List.getElem?_map]
      rw [List.getElem?_eq_getElem (by omega : j < bs.length)]
      simp [b8]
    · cases hu

theorem arg_u8 {t : TypeId} {v : Value} {d : DataW H} {p : List MemPlace} {r : Reach} {base : Nat} (ht : P.underlying t = some (.int .u8)) (hv : Value.okWide P W r base t v)
    (h : DataW.Trod enc P W 0 (fun _ => true) true t v d p) : ∃ y : UInt8, v = .int .u8 (y.toNat : Int) := by
  obtain ⟨a, rfl, rfl, rfl, w⟩ := open_int ht hv h
  simp [Lit.wf, IntKind.min, IntKind.max, IntKind.signed, IntKind.bits] at w
  exact ⟨UInt8.ofNat a.toNat, by rw [UInt8.toNat_ofNat']; congr 1; omega⟩
theorem arg_bool {t : TypeId} {v : Value} {d : DataW H} {p : List MemPlace} {r : Reach} {base : Nat} (ht : P.underlying t = some .bool) (hv : Value.okWide P W r base t v)
    (h : DataW.Trod enc P W 0 (fun _ => true) true t v d p) : ∃ b : Bool, v = .bool b := by
  obtain ⟨b, rfl, _⟩ := open_bool ht hv h
  exact ⟨b, rfl⟩

theorem spot_of {w : World} {x : Addr} {v : Value} (h : w.cell? x = some v) : ∃ b o, x = ⟨b, o, none⟩ ∧ b < w.heap.size := by
  have hsp : x.spot = none := by
    unfold World.cell? at h
    split at h
    · split at h
      · cases h
      · rename_i hns; cases hx : x.spot with | none => rfl | some _ => rw [hx] at hns; exact absurd rfl hns
    · cases h
  obtain ⟨b, o, sp⟩ := x
  simp only at hsp
  subst hsp
  exact ⟨b, o, rfl, World.block_lt_of_cell? w _ h⟩
/-- a slice whose elements take one cell each -/
theorem arg_slice1 {t e : TypeId} {v : Value} {d : DataW H} {p : List MemPlace} {r : Reach} {base : Nat} (ht : P.underlying t = some (.slice e)) (hc : P.cellsOf e = 1)
    (hv : Value.okWide P W r base t v) (h : DataW.Trod enc P W 0 (fun _ => true) true t v d p) :
    ∃ (A : Option Addr) (n c : Nat) (vs : List Value), v = .slice A n c ∧ n ≤ c ∧ c ≤ maxLen ∧ (A = none → c = 0) ∧ Sl W 1 A n vs ∧ ∀ u ∈ vs, ∃ (m : Nat) (dd : DataW H) (pp : List MemPlace), DataW.trod enc P W 0 (fun _ => true) true m e [u] = some (dd, pp) := by
  obtain ⟨A, n, c, rfl⟩ := okWide_slice ht hv
  obtain ⟨fuel, hf⟩ := h
  rcases Go.Deep.open_slice1 ht hc hf with ⟨hcs, _⟩ | ⟨x, l, c', m, fu, V, D, Pl, hcs, _, hl, hm, hmm, _, hx⟩
  · simp [Value.cells] at hcs
    obtain ⟨rfl, rfl, rfl⟩ := hcs
    exact ⟨none, 0, 0, [], rfl, Nat.le_refl _, Nat.zero_le _, fun _ => rfl, Sl.nil_, fun u hu => by cases hu⟩
  · simp [Value.cells] at hcs
    obtain ⟨rfl, rfl, rfl⟩ := hcs
    simp only [if_true] at hmm
    refine ⟨some x, n, c, (List.range n).map V, rfl, hl, hm, (fun h => by cases h), ⟨by simp, fun hn => ?_⟩, fun u hu => ?_⟩
    · have h0 := (hx 0 (by omega)).1
      have hz0 : x.add 0 = x := by simp [Addr.add]
      rw [hz0] at h0
      obtain ⟨b, o, rfl, hb⟩ := spot_of h0
      refine ⟨b, o, rfl, hb, fun j u hu => ?_⟩
      rw [List.getElem?_map] at hu
      obtain ⟨i, hi, rfl⟩ := Option.map_eq_some_iff.1 hu
      obtain ⟨hjn, hj⟩ := List.getElem?_eq_some_iff.1 hi
      simp at hjn hj
      subst hj
      have := (hx j (by omega)).1
      rwa [add_off] at this
    · obtain ⟨i, hi, rfl⟩ := List.mem_map.1 hu
      exact ⟨fu, D i, Pl i, (hx i (by have := List.mem_range.1 hi; omega)).2⟩
theorem list_map_of {α β : Type} (f : α → β) : ∀ (l : List β), (∀ u ∈ l, ∃ x, u = f x) → ∃ xs : List α, l = xs.map f
  | [], _ => ⟨[], rfl⟩
  | a :: l, h => by
    obtain ⟨x, rfl⟩ := h a (by simp)
    obtain ⟨xs, rfl⟩ := list_map_of f l (fun u hu => h u (by simp [hu]))
    exact ⟨x :: xs, rfl⟩
theorem arg_ints {t e : TypeId} {v : Value} {d : DataW H} {p : List MemPlace} {r : Reach} {base : Nat} (ht : P.underlying t = some (.slice e)) (he : P.underlying e = some (.int .i64)) (hc : P.cellsOf e = 1)
    (hv : Value.okWide P W r base t v) (h : DataW.Trod enc P W 0 (fun _ => true) true t v d p) :
    ∃ (A : Option Addr) (n c : Nat) (zs : List Int), v = .slice A n c ∧ n ≤ c ∧ c ≤ maxLen ∧ (∀ z ∈ zs, -9223372036854775808 ≤ z ∧ z < 9223372036854775808) ∧ Sl W 1 A n (zs.map (Value.int .i64)) := by
  obtain ⟨A, n, c, vs, rfl, h1, h2, _, h3, h4⟩ := arg_slice1 ht hc hv h
  have h5 : ∀ u ∈ vs, ∃ z : {z : Int // -9223372036854775808 ≤ z ∧ z < 9223372036854775808}, u = .int .i64 z.1 := by
    intro u hu
    obtain ⟨m, dd, pp, hd⟩ := h4 u hu
    obtain ⟨z, h6, _, h7⟩ := DataW.trod_int he hd
    simp only [List.cons.injEq, and_true] at h6
    simp [Lit.wf, IntKind.min, IntKind.max, IntKind.signed, IntKind.bits] at h7
    exact ⟨⟨z, by omega⟩, h6⟩
  obtain ⟨xs, rfl⟩ := list_map_of _ vs h5
  refine ⟨A, n, c, xs.map (·.1), rfl, h1, h2, fun z hz => ?_, by simpa [Function.comp_def] using h3⟩
  obtain ⟨x, _, rfl⟩ := List.mem_map.1 hz
  exact x.2
/-- A slice of bytes, as it reads in a world: its value and its bytes. -/
def SB (W : World) (x : Option Addr × Nat × Nat × List UInt8) : Prop := x.2.1 ≤ x.2.2.1 ∧ x.2.2.1 ≤ maxLen ∧ (x.1 = none → x.2.2.1 = 0) ∧ Sl W 1 x.1 x.2.1 (B8 x.2.2.2)
def sbv (x : Option Addr × Nat × Nat × List UInt8) : Value := .slice x.1 x.2.1 x.2.2.1
theorem bytes_of {t e : TypeId} {u : Value} {m : Nat} {d : DataW H} {p : List MemPlace} (ht : P.underlying t = some (.slice e)) (he : P.underlying e = some (.int .u8)) (hc : P.cellsOf e = 1)
    (hf : DataW.trod enc P W 0 (fun _ => true) true m t [u] = some (d, p)) : ∃ x, u = sbv x ∧ SB W x := by
  rcases open_ints ht he hc hf with ⟨hcs, _⟩ | ⟨x, l, c', zs, hcs, _, hl, hm, hz, _, hcell, hwz⟩
  · simp only [List.cons.injEq, and_true] at hcs
    subst hcs
    exact ⟨(none, 0, 0, []), rfl, Nat.le_refl _, Nat.zero_le _, fun _ => rfl, Sl.nil_⟩
  · simp only [List.cons.injEq, and_true] at hcs
    subst hcs
    simp only [if_true] at hz
    obtain ⟨bs, rfl⟩ := of_u8 zs hwz
    refine ⟨(some x, l, c', bs.take l), rfl, hl, hm, (fun h => by cases h), ⟨by simp [B8] at hz ⊢; omega, fun hn => ?_⟩⟩
    have h0 := hcell 0 (by first | omega | (dsimp only at hn; omega))
    have hz0 : x.add 0 = x := by simp [Addr.add]
    rw [hz0] at h0
    obtain ⟨b, o, rfl, hb⟩ := spot_of h0
    refine ⟨b, o, rfl, hb, fun j u hu => ?_⟩
    have hlen : bs.length = c' := by simpa using hz
    rw [B8, List.map_take, List.getElem?_take] at hu
    split at hu
    · rename_i hjl
      have hj := hcell j (by simp; omega)
      rw [add_off] at hj
      rw [hj]
      rw [← hu]
      simp only [List.getD_eq_getElem?_getD, List.getElem?_map]
      rw [List.getElem?_eq_getElem (by omega : j < bs.length)]
      simp [b8]
    · cases hu
theorem arg_bytess {t e q : TypeId} {v : Value} {d : DataW H} {p : List MemPlace} {r : Reach} {base : Nat} (ht : P.underlying t = some (.slice e)) (he : P.underlying e = some (.slice q)) (hq : P.underlying q = some (.int .u8)) (hc : P.cellsOf e = 1) (hc2 : P.cellsOf q = 1)
    (hv : Value.okWide P W r base t v) (h : DataW.Trod enc P W 0 (fun _ => true) true t v d p) :
    ∃ (A : Option Addr) (n c : Nat) (ss : List (Option Addr × Nat × Nat × List UInt8)), v = .slice A n c ∧ n ≤ c ∧ c ≤ maxLen ∧ (∀ x ∈ ss, SB W x) ∧ Sl W 1 A n (ss.map sbv) := by
  obtain ⟨A, n, c, vs, rfl, h1, h2, _, h3, h4⟩ := arg_slice1 ht hc hv h
  have h5 : ∀ u ∈ vs, ∃ x : {x // SB W x}, u = sbv x.1 := by
    intro u hu
    obtain ⟨m, dd, pp, hd⟩ := h4 u hu
    obtain ⟨x, h6, h7⟩ := bytes_of he hq hc2 hd
    exact ⟨⟨x, h7⟩, h6⟩
  obtain ⟨xs, rfl⟩ := list_map_of _ vs h5
  refine ⟨A, n, c, xs.map (·.1), rfl, h1, h2, fun z hz => ?_, by simpa [Function.comp_def] using h3⟩
  obtain ⟨x, _, rfl⟩ := List.mem_map.1 hz
  exact x.2
theorem arg_bools {t e : TypeId} {v : Value} {d : DataW H} {p : List MemPlace} {r : Reach} {base : Nat} (ht : P.underlying t = some (.slice e)) (he : P.underlying e = some .bool) (hc : P.cellsOf e = 1)
    (hv : Value.okWide P W r base t v) (h : DataW.Trod enc P W 0 (fun _ => true) true t v d p) :
    ∃ (A : Option Addr) (n c : Nat) (bs : List Bool), v = .slice A n c ∧ n ≤ c ∧ c ≤ maxLen ∧ Sl W 1 A n (bs.map Value.bool) := by
  obtain ⟨A, n, c, vs, rfl, h1, h2, _, h3, h4⟩ := arg_slice1 ht hc hv h
  have h5 : ∀ u ∈ vs, ∃ b : Bool, u = .bool b := by
    intro u hu
    obtain ⟨m, dd, pp, hd⟩ := h4 u hu
    obtain ⟨b, h6, _⟩ := DataW.trod_bool he hd
    simp only [List.cons.injEq, and_true] at h6
    exact ⟨b, h6⟩
  obtain ⟨xs, rfl⟩ := list_map_of _ vs h5
  exact ⟨A, n, c, xs, rfl, h1, h2, h3⟩

/-- the byte of a value -/
def u8of (v : Value) : UInt8 := match v with | .int _ n => UInt8.ofNat n.toNat | _ => 0
theorem arg_hash {t e : TypeId} {v : Value} {d : DataW H} {p : List MemPlace} {r : Reach} {base k : Nat} (ht : P.underlying t = some (.array k e)) (he : P.underlying e = some (.int .u8)) (hc : P.cellsOf e = 1) (hk : P.cellsOf t = k)
    (hv : Value.okWide P W r base t v) (h : DataW.Trod enc P W 0 (fun _ => true) true t v d p) :
    ∃ g : List UInt8, v = .agg (B8 g).toArray ∧ g.length = k := by
  simp only [Value.okWide, ht] at hv
  obtain ⟨cs, rfl, hsz, _⟩ := hv
  obtain ⟨fuel, hf⟩ := h
  obtain ⟨xs, m, _, _, hl, hx, hall⟩ := DataW.trod_array ht hf
  simp only [Value.cells] at hl hall
  have hlen : cs.toList.length = k := by rw [hl, hk]
  refine ⟨cs.toList.map u8of, ?_, by simpa using hlen⟩
  congr 1
  have key : B8 (cs.toList.map u8of) = cs.toList := by
    unfold B8
    rw [List.map_map]
    conv => rhs; rw [← List.map_id cs.toList]
    refine List.map_congr_left fun c hcm => ?_
    obtain ⟨i, hi, rfl⟩ := List.mem_iff_getElem.1 hcm
    have hi2 : i < k := by omega
    have h1 := hall i hi2
    rw [hc, Nat.mul_one] at h1
    rw [List.getElem?_eq_getElem (by omega)] at h1
    have e1 : (cs.toList.drop i).take 1 = [cs.toList[i]] := by
      rw [List.drop_eq_getElem_cons hi]
      rfl
    rw [e1] at h1
    obtain ⟨n, h2, _, h3⟩ := DataW.trod_int he h1
    simp only [List.cons.injEq, and_true] at h2
    rw [h2]
    simp [Lit.wf, IntKind.min, IntKind.max, IntKind.signed, IntKind.bits] at h3
    simp only [Function.comp, u8of, b8, id, UInt8.toNat_ofNat']
    congr 1
    omega
  rw [key]
end
end Go.Proofs.Ytdopgooglicaiaa
/- A region that draws its order, walked in ONE order: what only reads is taken as soon as it may be, under a relation R between worlds that whatever else the region does keeps. -/
set_option linter.unusedSimpArgs false
set_option linter.unusedVariables false
namespace Go.Proofs.Ytdopgooglicaiaa
open Go.RowKit
set_option maxRecDepth 100000

section
variable {P : Program} {ops : Array Oper} {Q : Exit → Act → World → Prop} {R : World → World → Prop}

/-- Operation number i, by walking the list (so that it is found written out). -/
def nth : List Oper → Nat → Option Oper
  | [], _ => none
  | o :: _, 0 => some o
  | _ :: l, n + 1 => nth l n
theorem nth_eq : ∀ (l : List Oper) (i : Nat), nth l i = l[i]?
  | [], _ => by simp [nth]
  | o :: _, 0 => by simp [nth]
  | _ :: l, n + 1 => by simp [nth, nth_eq l n]
theorem nth_ops {i : Nat} {o : Oper} (h : nth ops.toList i = some o) : ops[i]? = some o := by rw [nth_eq] at h; simpa using h
/-- The walk in the order given: at (i, true) operation i yields its value in every world that R leads to; at (i, false) it is carried out. -/
def wpC (P : Program) (ops : Array Oper) (Q : Exit → Act → World → Prop) (R : World → World → Prop) : List (Nat × Bool) → Act → World → Prop
  | [], a, w => Q .normal a w
  | (i, true) :: rest, a, w => ∃ o v, ops[i]? = some o ∧ YieldsIf P ops (R w) o v a ∧ wpC P ops Q R rest (a.put o.dst v) w
  | (i, false) :: rest, a, w => wpOp P ops Q i (fun a' w' => R w w' ∧ wpC P ops Q R rest a' w') a w

def canonOk (ops : Array Oper) : List (Nat × Bool) → Array Bool → Bool
  | [], listed => Region.ready .any ops listed == []
  | (i, true) :: rest, listed => Region.free .any ops listed i && (Region.ready .any ops listed).contains i && canonOk ops rest (listed.setIfInBounds i true)
  | (i, false) :: rest, listed => Region.ready .any ops listed == [i] && canonOk ops rest (listed.setIfInBounds i true)

theorem wpAnyH_weaken {S S' : World → Prop} (hS : ∀ w, S w → S' w) : ∀ (fuel : Nat) (listed : Array Bool) (a : Act) (w : World), wpAnyH P .any ops Q S fuel listed a w → wpAnyH P .any ops Q S' fuel listed a w
  | 0, _, _, _, h => h
  | fuel + 1, _, _, _, h => ⟨h.1, fun i hi => wpOp_mono (fun a' w' h' => ⟨hS _ h'.1, wpAnyH_weaken hS fuel _ a' w' h'.2⟩) (h.2 i hi)⟩

theorem wpAnyH_of_C (hrefl : ∀ w, R w w) (htr : ∀ a b c, R a b → R b c → R a c) (hs : Region.noSelect ops = true) (hQ : ∀ (d : Option Tmp) (v : Value) c a w, Q (.panic c) (a.put d v) w → Q (.panic c) a w) :
    ∀ (l : List (Nat × Bool)) (fuel : Nat) (listed : Array Bool) (a : Act) (w : World) (S : World → Prop), canonOk ops l listed = true → l.length ≤ fuel → (∀ w', R w w' → S w') → wpC P ops Q R l a w →
      wpAnyH P .any ops Q S fuel listed a w
  | [], fuel, listed, a, w, S, hok, _, _, h => wpAnyH_done (by simpa [canonOk] using hok) h fuel
  | (i, true) :: rest, fuel, listed, a, w, S, hok, hf, hS, h => by
    obtain ⟨f, rfl⟩ : ∃ f, fuel = f + 1 := ⟨fuel - 1, by simp at hf; omega⟩
    simp only [canonOk, Bool.and_eq_true] at hok
    obtain ⟨o, v, ho, hy, hr⟩ := h
    have ih := wpAnyH_of_C hrefl htr hs hQ rest f (listed.setIfInBounds i true) (a.put o.dst v) w (fun w' => S w' ∧ R w w') hok.2 (by simp at hf; omega) (fun w' h' => ⟨hS w' h', h'⟩) hr
    refine wpAnyH_weaken (fun w' h' => h'.1) _ _ _ _ (wpAnyH_take (oi := o) (v := v) ho hs hok.1.1 hok.1.2 (fun c a w => hQ o.dst v c a w) ?_ ⟨hS w (hrefl w), hrefl w⟩ ih)
    rcases hy with ⟨h1, h2⟩ | h1
    · exact .inl ⟨h1, fun w' h' => h2 w' h'.2⟩
    · exact .inr h1
  | (i, false) :: rest, fuel, listed, a, w, S, hok, hf, hS, h => by
    obtain ⟨f, rfl⟩ : ∃ f, fuel = f + 1 := ⟨fuel - 1, by simp at hf; omega⟩
    simp only [canonOk, Bool.and_eq_true, beq_iff_eq] at hok
    refine wpAnyH_all hok.1 (by simp) fun j hj => ?_
    obtain rfl : j = i := by simpa using hj
    exact wpOp_mono (fun a' w' h' => ⟨hS w' h'.1, wpAnyH_of_C hrefl htr hs hQ rest f _ a' w' S hok.2 (by simp at hf; omega) (fun w'' h'' => hS w'' (htr _ _ _ h'.1 h'')) h'.2⟩) h

theorem wp_region_C {id : Nat} {a : Act} {w : World} (l : List (Nat × Bool)) (R : World → World → Prop) (hm : P.follows .mixedOrders = true) (hs : Region.noSelect ops = true) (hok : canonOk ops l (Array.replicate ops.size false) = true) (hl : l.length ≤ ops.size)
    (hrefl : ∀ w, R w w) (htr : ∀ a b c, R a b → R b c → R a c) (hQ : ∀ (d : Option Tmp) (v : Value) c a w, Q (.panic c) (a.put d v) w → Q (.panic c) a w)
    (h : wpC P ops Q R l a w.drew) : (Code.region id ops true).wp P Q a w :=
  wp_region_held (S := fun _ => True) hm (wpAnyH_of_C hrefl htr hs hQ l _ _ _ _ _ hok hl (fun _ _ => trivial) h)

theorem wpC_nil {a : Act} {w : World} (h : Q .normal a w) : wpC P ops Q R [] a w := h
/-- an operation that yields its value in every world that R leads to -/
theorem wpC_quiet {i : Nat} {rest : List (Nat × Bool)} {o : Oper} {v : Value} {a : Act} {w : World} (ho : nth ops.toList i = some o) (hw : Region.wanted o (yielded ops a.tmps) = true)
    (hy : ∀ w', R w w' → (execOp a.eval o).run P w' = .ok (.value v) w') (h : wpC P ops Q R rest (a.put o.dst v) w) : wpC P ops Q R ((i, true) :: rest) a w := ⟨o, v, nth_ops ho, .inl ⟨hw, hy⟩, h⟩
/-- an operation that is not wanted -/
theorem wpC_skip {i : Nat} {rest : List (Nat × Bool)} {o : Oper} {a : Act} {w : World} (ho : nth ops.toList i = some o) (hw : Region.wanted o (yielded ops a.tmps) = false)
    (h : wpC P ops Q R rest (a.put o.dst undef) w) : wpC P ops Q R ((i, true) :: rest) a w := ⟨o, undef, nth_ops ho, .inr ⟨hw, rfl⟩, h⟩
theorem wpC_skip' {i : Nat} {rest : List (Nat × Bool)} {o : Oper} {a : Act} {w : World} (hrefl : ∀ w, R w w) (ho : nth ops.toList i = some o) (hw : Region.wanted o (yielded ops a.tmps) = false)
    (h : wpC P ops Q R rest (a.put o.dst undef) w) : wpC P ops Q R ((i, false) :: rest) a w := by
  unfold wpC wpOp
  simp only [nth_ops ho, hw, Bool.false_eq_true, if_false]
  exact ⟨hrefl w, h⟩
/-- a load of an array or a struct that nothing that is to come changes -/
theorem wpC_load {i : Nat} {rest : List (Nat × Bool)} {o : Oper} {a : Act} {w : World} (ho : nth ops.toList i = some o) (hw : Region.wanted o (yielded ops a.tmps) = true) (ty : TypeId) (x : Operand) (hop : o.op = .load ty x)
    (b off : Nat) (hx : a.eval x = .pointer (some ⟨b, off, none⟩)) (cs : List Value) (d : TypeDesc) (hS : ∀ w', R w w' → w'.rangeAt b off cs) (hu : P.underlying ty = some d) (hd : d.isRow = true) (hi : (P.info? ty).map (·.size) = some cs.length)
    (h : wpC P ops Q R rest (a.put o.dst (.agg cs.toArray)) w) : wpC P ops Q R ((i, true) :: rest) a w :=
  ⟨o, _, nth_ops ho, yieldsIf_load_mid hw ty x hop b off hx cs d hS hu hd hi, h⟩
/-- an operation that yields its value, and nothing else can come up -/
theorem wpC_val {i : Nat} {rest : List (Nat × Bool)} {o : Oper} {v : Value} {a : Act} {w : World} (hrefl : ∀ w, R w w) (ho : nth ops.toList i = some o) (hw : Region.wanted o (yielded ops a.tmps) = true)
    (hy : (execOp a.eval o).run P w = .ok (.value v) w) (h : wpC P ops Q R rest (a.put o.dst v) w) : wpC P ops Q R ((i, false) :: rest) a w := by
  unfold wpC wpOp
  simp only [nth_ops ho, hw, if_true]
  refine .inl ?_
  unfold Oper.wp
  rw [hy]
  exact ⟨hrefl w, h⟩
/-- an operation that is carried out -/
theorem wpC_loud {i : Nat} {rest : List (Nat × Bool)} {o : Oper} {a : Act} {w : World} (ho : nth ops.toList i = some o) (hw : Region.wanted o (yielded ops a.tmps) = true)
    (h : ∀ K : Act → World → Prop, Shut (∀ a' w', R w w' → wpC P ops Q R rest a' w' → K a' w') → o.wp P a w K Q) : wpC P ops Q R ((i, false) :: rest) a w := by
  unfold wpC wpOp
  simp only [nth_ops ho, hw, if_true]
  exact .inl (h _ fun a' w' h1 h2 => ⟨h1, h2⟩)
end

/-! ### relations between worlds -/
/-- All blocks that were there are as they were. -/
def RBel (w w' : World) : Prop := Below w.heap.size w w'
theorem RBel.refl_ (w : World) : RBel w w := Below.refl _ _
theorem RBel.trans_ (a b c : World) (h : RBel a b) (k : RBel b c) : RBel a c := Below.trans h (Below.mono k h.size)
/-- All blocks that were there are as they were, but for one. -/
def RBut (row : Option Nat) (w w' : World) : Prop := w.grownBy w' row
theorem RBut.refl_ (row : Option Nat) (w : World) : RBut row w w := ⟨rfl, rfl, rfl, Nat.le_refl _, fun _ _ _ => rfl⟩
theorem RBut.trans_ (row : Option Nat) (a b c : World) (h : RBut row a b) (k : RBut row b c) : RBut row a c := grown_trans' h k fun _ h => .inl h
theorem RBut.of_below {row : Option Nat} {w w' : World} (h : Below w.heap.size w w') : RBut row w w' := grown_of_below h row
theorem Sl.but {w w' : World} {row : Option Nat} {size n : Nat} {b o : Nat} {xs : List Value} (h : Sl w size (some ⟨b, o, none⟩) n xs) (hr : RBut row w w') (hne : some b ≠ row) : Sl w' size (some ⟨b, o, none⟩) n xs :=
  ⟨h.len, fun hn => by
    obtain ⟨b', o', e, hb, hc⟩ := h.cells hn
    simp only [Option.some.injEq, Addr.mk.injEq, and_true] at e
    obtain ⟨rfl, rfl⟩ := e
    exact ⟨b, o, rfl, Nat.lt_of_lt_of_le hb hr.size, fun j u hu => (World.cell?_of_block (a := ⟨b, o + j, none⟩) (hr.block b hb hne)).trans (hc j u hu)⟩⟩

theorem own_but {w w' : World} {row : Option Nat} {B : Nat} {e : TypeId} {size n c : Nat} {A : Option Addr} {xs : List Value} (h : Own w B e size A n c xs) (hr : RBut row w w') (hne : ∀ k, row = some k → k < B) : Own w' B e size A n c xs :=
  h.kept2 hr (by
    cases hA : A.map (·.block) with
    | none => exact .inl rfl
    | some k =>
      right
      intro he
      have h1 := (h.lt k hA).1
      have h2 := hne k he.symm
      omega)
theorem own_ne {w : World} {B : Nat} {e : TypeId} {size n c : Nat} {A : Option Addr} {xs : List Value} (h : Own w B e size A n c xs) : ∀ k, A.map (·.block) = some k → k < w.heap.size := fun k hk => (h.lt k hk).2
/-- what only a block of the call's own has turned in -/
theorem below_but {w w' : World} {B p : Nat} (h : RBut (some p) w w') (hp : B ≤ p) (hB : B ≤ w.heap.size) : Below B w w' :=
  ⟨h.os, h.tape, h.output, h.size, fun k hk => h.block k (by omega) (fun e => by injection e; omega)⟩
theorem range_keep {w w' : World} {b o : Nat} {cs : List Value} (h : w.rangeAt b o cs) (hb : w'.heap[b]? = w.heap[b]?) : w'.rangeAt b o cs := fun j v hv => (World.cell?_of_block (a := ⟨b, o + j, none⟩) hb).trans (h j v hv)
theorem range_new (w : World) (cs : Array Value) (t : TypeId) (fr : Nat × Nat) : (w.alloc (.cells cs t fr)).rangeAt w.heap.size 0 cs.toList := fun j v hv => by
  rw [Nat.zero_add, cell_of_row _ w.heap.size j cs t fr (heap_alloc_new w _)]
  simpa using hv
/-- the text of bytes -/
def str (l : List UInt8) : ByteArray := ⟨l.toArray⟩
theorem strOfNums_of (l : List UInt8) : strOfNums (l.map fun c => (c.toNat : Int)) = str l := by
  unfold strOfNums str
  congr 1
  rw [List.map_map]
  congr 1
  conv => rhs; rw [← List.map_id l]
  refine List.map_congr_left fun c _ => ?_
  simp
theorem conv_str {P : Program} {w : World} {src dst e : TypeId} (hs : P.underlying src = some (.slice e)) (he : P.underlying e = some (.int .u8)) (hd : P.underlying dst = some .string) {A : Option Addr} {n c : Nat} {l : List UInt8} (h : Sl w 1 A n (B8 l)) :
    (convert src dst (.slice A n c)).run P w = .ok (.string (str l)) w := by
  have hl := h.len8
  rcases Nat.eq_zero_or_pos n with h0 | h0
  · subst h0
    obtain rfl : l = [] := List.eq_nil_of_length_eq_zero hl.symm
    rcases A with _ | ad
    · exact run_convert_bytes_nil w src e hs he 0 c dst hd
    · rw [run_convert_bytes_string w src dst e _ 0 c hs he hd, run_bytesToString w ad 0 c [] (by simp [loadCells, loadCellsFrom])]
      rfl
  · obtain ⟨b, o, rfl, hb, hc⟩ := h.at8 h0
    rw [run_convert_bytes_arg w src e hs he b o n c (l.map fun c => (c.toNat : Int)) (by simp [hl]) ?_ dst hd, strOfNums_of]
    intro i hi
    rw [hc i l[i] (List.getElem?_eq_getElem (by omega))]
    simp [List.getD, List.getElem?_eq_getElem (show i < l.length by omega)]
theorem str_inj {a b : List UInt8} : (str a).toList = (str b).toList ↔ a = b := by
  have e : ∀ l : List UInt8, (str l).toList = l := by
    intro l
    rw [ByteArray.toList_eq]
    rfl
  rw [e, e]
theorem Sl.but2 {w w' : World} {row : Option Nat} {size n : Nat} {A : Option Addr} {xs : List Value} (h : Sl w size A n xs) (hr : RBut row w w') (hne : ∀ b, A.map (·.block) = some b → some b ≠ row) : Sl w' size A n xs := by
  refine ⟨h.len, fun hn => ?_⟩
  obtain ⟨b, o, e, hb, hc⟩ := h.cells hn
  subst e
  exact (h.but hr (hne b rfl)).cells hn

theorem Sl.front {w : World} {A : Option Addr} {n k : Nat} {l : List UInt8} (h : Sl w 1 A n (B8 l)) (hk : k ≤ n) : Sl w 1 A k (B8 (l.take k)) := by
  refine ⟨by have := h.len8; simp [B8]; omega, fun h0 => ?_⟩
  obtain ⟨b, o, e, hb, hc⟩ := h.cells (by omega)
  refine ⟨b, o, e, hb, fun j u hu => hc j u ?_⟩
  rw [B8, List.map_take, List.getElem?_take] at hu
  split at hu
  · exact hu
  · cases hu
theorem Sl.back {w : World} {b o n k : Nat} {l : List UInt8} (h : Sl w 1 (some ⟨b, o, none⟩) n (B8 l)) (hk : k ≤ n) : Sl w 1 (some ⟨b, o + k, none⟩) (n - k) (B8 (l.drop k)) := by
  refine ⟨by have := h.len8; simp [B8]; omega, fun h0 => ?_⟩
  obtain ⟨b', o', e, hb, hc⟩ := h.cells (by omega)
  simp only [Option.some.injEq, Addr.mk.injEq, and_true] at e
  obtain ⟨rfl, rfl⟩ := e
  refine ⟨b, o + k, rfl, hb, fun j u hu => ?_⟩
  rw [B8, List.map_drop, List.getElem?_drop] at hu
  rw [Nat.add_assoc]
  exact hc (k + j) u hu

theorem Sl.bel2 {w w' : World} {B b o size n : Nat} {xs : List Value} (h : Sl w size (some ⟨b, o, none⟩) n xs) (hb : Below B w w') (hlt : b < B) : Sl w' size (some ⟨b, o, none⟩) n xs :=
  ⟨h.len, fun hn => by
    obtain ⟨b', o', e, h1, hc⟩ := h.cells hn
    simp only [Option.some.injEq, Addr.mk.injEq, and_true] at e
    obtain ⟨rfl, rfl⟩ := e
    exact ⟨b, o, rfl, Nat.lt_of_lt_of_le h1 hb.size, fun j u hu => (hb.cell (p := ⟨b, o + j, none⟩) hlt).trans (hc j u hu)⟩⟩
end Go.Proofs.Ytdopgooglicaiaa
/- Arrays and structs that fill a block of their own. -/
set_option linter.unusedSimpArgs false
set_option linter.unusedVariables false
namespace Go.Proofs.Ytdopgooglicaiaa
open Go.RowKit
set_option maxRecDepth 100000

/-- Block b holds just the cells cs. -/
def Blk (w : World) (b : Nat) (t : TypeId) (cs : List Value) : Prop := w.heap[b]? = some (.cells cs.toArray t (0, 0))
section
variable {w w' : World} {b : Nat} {t : TypeId} {cs : List Value}
theorem Blk.lt (h : Blk w b t cs) : b < w.heap.size := (Array.getElem?_eq_some_iff.1 h).1
theorem Blk.range (h : Blk w b t cs) : w.rangeAt b 0 cs := fun j v hv => by
  rw [Nat.zero_add, cell_of_row w b j _ _ _ h]
  simpa using hv
theorem Blk.cell (h : Blk w b t cs) (i : Nat) : w.cell? ⟨b, i, none⟩ = cs[i]? := by rw [cell_of_row w b i _ _ _ h]; simp
theorem Blk.fz (h : Blk w b t cs) (i : Nat) : w.frozen? ⟨b, i, none⟩ = false := by unfold Blk at h; simp [World.frozen?, h]
theorem Blk.there (h : Blk w b t cs) : w.there b 0 cs.length := fun j hj => ⟨by rw [Nat.zero_add, h.cell, List.getElem?_eq_getElem hj]; rfl, h.fz _⟩
theorem Blk.new (w : World) (cs : Array Value) (t : TypeId) : Blk (w.alloc (.cells cs t)) w.heap.size t cs.toList := heap_alloc_new w _
theorem Blk.keep (h : Blk w b t cs) (hb : w'.heap[b]? = w.heap[b]?) : Blk w' b t cs := hb.trans h
theorem Blk.below {B : Nat} (h : Blk w b t cs) (hb : Below B w w') (hB : b < B) : Blk w' b t cs := h.keep (hb.block b hB)
theorem Blk.to (h : Blk w b t cs) (hb : Below w.heap.size w w') : Blk w' b t cs := h.below hb h.lt
theorem Blk.but {row : Option Nat} (h : Blk w b t cs) (hb : RBut row w w') (hne : some b ≠ row) : Blk w' b t cs := h.keep (hb.block b h.lt hne)
theorem Blk.set_ (h : Blk w b t cs) (i : Nat) (u : Value) : Blk (w.setCell ⟨b, i, none⟩ u) b t (cs.set i u) := by
  unfold Blk at h ⊢
  simp [World.setCell, Array.getElem?_modify, h]
theorem Blk.sl (h : Blk w b t cs) {size n : Nat} (hl : cs.length = n * size) : Sl w size (some ⟨b, 0, none⟩) n cs :=
  ⟨hl, fun _ => ⟨b, 0, rfl, h.lt, fun j u hu => by rw [Nat.zero_add, h.cell]; exact hu⟩⟩

theorem setCells_blk : ∀ (vs pre : List Value) (w : World) (old : List Value), Blk w b t (pre ++ old) → old.length = vs.length → Blk (w.setCells b pre.length vs) b t (pre ++ vs)
  | [], pre, w, old, h, hl => by
    obtain rfl : old = [] := List.eq_nil_of_length_eq_zero hl
    exact h
  | v :: vs, pre, w, [], h, hl => by simp at hl
  | v :: vs, pre, w, o :: old, h, hl => by
    have h1 := h.set_ pre.length v
    have e1 : (pre ++ o :: old).set pre.length v = (pre ++ [v]) ++ old := by simp
    rw [e1] at h1
    have := setCells_blk vs (pre ++ [v]) _ old h1 (by simpa using hl)
    simp only [List.append_assoc, List.cons_append, List.nil_append, List.length_append, List.length_cons, List.length_nil, Nat.zero_add] at this
    exact this
theorem setCells_but : ∀ (vs : List Value) (o : Nat) (w : World), RBut (some b) w (w.setCells b o vs)
  | [], _, w => RBut.refl_ _ _
  | v :: vs, o, w => RBut.trans_ (some b) w (w.setCell ⟨b, o, none⟩ v) _ ⟨rfl, rfl, rfl, by simp [World.setCell], fun k _ hk => Below.heap_setCell w ⟨b, o, none⟩ v k (fun e => hk (by rw [e]))⟩ (setCells_but vs (o + 1) _)
end

theorem wpl_load_blk {P : Program} {ops : Array Oper} {rest : List Oper} {op : Oper} {a : Act} {w : World} {Q : Exit → Act → World → Prop} (hgd : op.guard = none) (ty : TypeId) (x : Operand) (ho : op.op = .load ty x)
    (b : Nat) (hx : a.eval x = .pointer (some ⟨b, 0, none⟩)) (t : TypeId) (cs : List Value) (d : TypeDesc) (hc : Blk w b t cs)
    (hu : P.underlying ty = some d) (hd : d.isRow = true) (hi : (P.info? ty).map (·.size) = some cs.length)
    (h : wpList P ops Q rest (a.put op.dst (.agg cs.toArray)) w) : wpList P ops Q (op :: rest) a w :=
  wpList_load_mid hgd ty x ho b 0 hx cs d hc.range hu hd hi h
theorem wpList_wanted {P : Program} {ops : Array Oper} {rest : List Oper} {o : Oper} {a : Act} {w : World} {Q : Exit → Act → World → Prop} (hw : Region.wanted o (yielded ops a.tmps) = true)
    (h : o.wp P a w (wpList P ops Q rest) Q) : wpList P ops Q (o :: rest) a w := by
  unfold wpList
  rw [if_pos hw]
  exact .inl h
theorem wpl_load_blk' {P : Program} {ops : Array Oper} {rest : List Oper} {op : Oper} {a : Act} {w : World} {Q : Exit → Act → World → Prop} (hw : Region.wanted op (yielded ops a.tmps) = true) (ty : TypeId) (x : Operand) (ho : op.op = .load ty x)
    (b : Nat) (hx : a.eval x = .pointer (some ⟨b, 0, none⟩)) (t : TypeId) (cs : List Value) (d : TypeDesc) (hc : Blk w b t cs)
    (hu : P.underlying ty = some d) (hd : d.isRow = true) (hi : (P.info? ty).map (·.size) = some cs.length)
    (h : wpList P ops Q rest (a.put op.dst (.agg cs.toArray)) w) : wpList P ops Q (op :: rest) a w :=
  wpList_wanted hw (wp_load_mid ty x ho b 0 hx cs d hc.range hu hd hi h)
/-- a whole array or struct is stored into a block of its own -/
theorem wpl_store_blk {P : Program} {ops : Array Oper} {rest : List Oper} {op : Oper} {a : Act} {w : World} {Q : Exit → Act → World → Prop} (hgd : op.guard = none) (ty : TypeId) (x y : Operand) (ho : op.op = .store ty x y)
    (b : Nat) (t : TypeId) (old cs : List Value) (hx : a.eval x = .pointer (some ⟨b, 0, none⟩)) (hy : a.eval y = .agg cs.toArray) (hb : Blk w b t old) (hl : old.length = cs.length)
    (hi : (P.info? ty).map (·.size) = some cs.length) (h1 : ∀ v ∈ cs, v.oneCell' = true)
    (h : ∀ w', Blk w' b t cs → RBut (some b) w w' → wpList P ops Q rest (a.put op.dst undef) w') : wpList P ops Q (op :: rest) a w := by
  refine wpList_store_mid hgd ty x y ho b 0 cs.toArray hx hy (by have := hb.there; rw [hl] at this; simpa using this) (by simpa using hi) (all_oneCell_toArray h1) (h _ ?_ ?_)
  · have := setCells_blk cs [] w old (by simpa using hb) hl
    simpa using this
  · simpa using setCells_but cs 0 w

theorem results_blk {P : Program} {fn : Func} {p : Tmp} {ty : TypeId} (hr : fn.results = #[.cell p ty]) {tmps : Array Value} {w : World} {b : Nat} {t : TypeId} {cs : List Value} {d : TypeDesc} (hp : tmps.getD p undef = .pointer (some ⟨b, 0, none⟩)) (hc : Blk w b t cs)
    (hu : P.underlying ty = some d) (hd : d.isRow = true) (hi : (P.info? ty).map (·.size) = some cs.length) : (results fn tmps).run P w = .ok (.agg cs.toArray) w := by
  have hp' : tmps[p]?.getD undef = .pointer (some ⟨b, 0, none⟩) := by simpa using hp
  simp only [results, hr]
  simp [Sem.run_bind, hp', asAddr, run_loadVar_mid w b 0 ty cs d hc.range hu hd hi]

/-- a load of a whole block in a drawn region, where nothing else can come up -/
theorem wpC_load_blk {P : Program} {ops : Array Oper} {Q : Exit → Act → World → Prop} {R : World → World → Prop} {i : Nat} {rest : List (Nat × Bool)} {o : Oper} {a : Act} {w : World} (hrefl : ∀ w, R w w) (ho : nth ops.toList i = some o) (hw : Region.wanted o (yielded ops a.tmps) = true) (ty : TypeId) (x : Operand) (hop : o.op = .load ty x)
    (b : Nat) (hx : a.eval x = .pointer (some ⟨b, 0, none⟩)) (t : TypeId) (cs : List Value) (d : TypeDesc) (hc : Blk w b t cs) (hu : P.underlying ty = some d) (hd : d.isRow = true) (hi : (P.info? ty).map (·.size) = some cs.length)
    (h : wpC P ops Q R rest (a.put o.dst (.agg cs.toArray)) w) : wpC P ops Q R ((i, false) :: rest) a w := by
  unfold wpC wpOp
  simp only [nth_ops ho, hw, if_true]
  refine .inl ?_
  refine wp_load_mid ty x hop b 0 hx cs d hc.range hu hd hi ?_
  exact ⟨hrefl w, h⟩
/-- a store of a whole block in a drawn region -/
theorem wpC_store_blk {P : Program} {ops : Array Oper} {Q : Exit → Act → World → Prop} {R : World → World → Prop} {i : Nat} {rest : List (Nat × Bool)} {o : Oper} {a : Act} {w : World} (ho : nth ops.toList i = some o) (hw : Region.wanted o (yielded ops a.tmps) = true) (ty : TypeId) (x y : Operand) (hop : o.op = .store ty x y)
    (b : Nat) (t : TypeId) (old cs : List Value) (hx : a.eval x = .pointer (some ⟨b, 0, none⟩)) (hy : a.eval y = .agg cs.toArray) (hb : Blk w b t old) (hl : old.length = cs.length)
    (hi : (P.info? ty).map (·.size) = some cs.length) (h1 : ∀ v ∈ cs, v.oneCell' = true) (hR : ∀ w', RBut (some b) w w' → R w w')
    (h : ∀ w', Blk w' b t cs → RBut (some b) w w' → wpC P ops Q R rest (a.put o.dst undef) w') : wpC P ops Q R ((i, false) :: rest) a w := by
  unfold wpC wpOp
  simp only [nth_ops ho, hw, if_true]
  refine .inl ?_
  have hbl := setCells_blk cs [] w old (by simpa using hb) hl
  have hbu := setCells_but (b := b) cs 0 w
  refine wp_store_mid ty x y hop b 0 cs.toArray hx hy (by have := hb.there; rw [hl] at this; simpa using this) (by simpa using hi) (all_oneCell_toArray h1) ⟨hR _ (by simpa using hbu), h _ (by simpa using hbl) (by simpa using hbu)⟩
/-- a whole array or struct is stored into the block that was just made -/
theorem wpl_store_new {P : Program} {ops : Array Oper} {rest : List Oper} {op : Oper} {a : Act} {w : World} {Q : Exit → Act → World → Prop} (hgd : op.guard = none) (ty : TypeId) (x y : Operand) (ho : op.op = .store ty x y)
    (t : TypeId) (cur : Array Value) (cs : List Value) (hx : a.eval x = .pointer (some ⟨w.heap.size, 0, none⟩)) (hy : a.eval y = .agg cs.toArray) (hl : cur.size = cs.length)
    (hi : (P.info? ty).map (·.size) = some cs.length) (h1 : ∀ v ∈ cs, v.oneCell' = true)
    (h : ∀ w', Blk w' w.heap.size t cs → Below w.heap.size w w' → wpList P ops Q rest (a.put op.dst undef) w') : wpList P ops Q (op :: rest) a (w.alloc (.cells cur t)) := by
  refine wpl_store_blk hgd ty x y ho w.heap.size t cur.toList cs hx hy (Blk.new w cur t) (by simpa using hl) hi h1 fun w' h2 h3 => h w' h2 ?_
  exact ((Below.refl _ _).alloc (Nat.le_refl _) _).trans (below_but h3 (Nat.le_refl _) (by simp))

section
variable {P : Program}
theorem eqItems_bytes {e : TypeId} (he : P.underlying e = some (.int .u8)) (d : Nat) (a b : List UInt8) (w : World) : ∀ l : List Nat, (∀ i ∈ l, i < a.length ∧ i < b.length) →
    (Op.eqItems (d + 1) e 1 (B8 a).toArray (B8 b).toArray l).run P w = .ok (decide (∀ i ∈ l, a[i]? = b[i]?)) w
  | [], _ => by simp [Op.eqItems]
  | i :: l, h => by
    obtain ⟨ha, hb⟩ := h i (by simp)
    have hp : P.plainKey e = true := by unfold Program.plainKey; rw [he]
    have pa := run_part_plain (P := P) w hp (xs := (B8 a).toArray) (off := i) (v := .int .u8 (a[i].toNat : Int)) (by simp [B8, b8, ha])
    have pb := run_part_plain (P := P) w hp (xs := (B8 b).toArray) (off := i) (v := .int .u8 (b[i].toNat : Int)) (by simp [B8, b8, hb])
    have ih := eqItems_bytes he d a b w l (fun j hj => h j (by simp [hj]))
    have hq : (Op.equalIn (d + 1) e (.int .u8 (a[i].toNat : Int)) (.int .u8 (b[i].toNat : Int))).run P w = .ok ((a[i].toNat : Int) == (b[i].toNat : Int)) w := run_equalIn_int w d e .u8 .u8 _ _ he
    simp only [Op.eqItems, Sem.run_bind, Nat.mul_one, pa, pb, hq, Result.andThen_ok]
    by_cases hab : a[i] = b[i]
    · have : ((a[i].toNat : Int) == (b[i].toNat : Int)) = true := by simp [hab]
      rw [this]
      simp only [Bool.not_true, Bool.false_eq_true, if_false]
      rw [ih]
      congr 1
      simp [ha, hb, hab]
    · have hne : a[i].toNat ≠ b[i].toNat := fun h => hab (UInt8.toNat_inj.1 h)
      have : ((a[i].toNat : Int) == (b[i].toNat : Int)) = false := by simp; omega
      rw [this]
      simp only [Bool.not_false, if_true]
      have hd : (decide (∀ j ∈ i :: l, a[j]? = b[j]?)) = false := by
        rw [decide_eq_false_iff_not]
        intro hall
        have := hall i (by simp)
        simp [ha, hb] at this
        exact hab this
      rw [hd]
      rfl
theorem eq_bytes {t e : TypeId} {k : Nat} {i : TypeInfo} (ht : P.underlying t = some (.array k e)) (he : P.underlying e = some (.int .u8)) (hi : P.info? e = some i) (hc : P.cellsOf e = 1) (d : Nat) (a b : List UInt8) (ha : a.length = k) (hb : b.length = k) (w : World) :
    (Op.equalIn (d + 2) t (.agg (B8 a).toArray) (.agg (B8 b).toArray)).run P w = .ok (decide (a = b)) w := by
  rw [run_equalIn_array w (d + 1) _ _ ht hi, hc, eqItems_bytes he d a b w (List.range k) (fun i hi => by simp at hi; omega)]
  congr 1
  rw [decide_eq_decide]
  constructor
  · intro h
    refine List.ext_getElem? fun j => ?_
    rcases Nat.lt_or_ge j k with hj | hj
    · exact h j (by simpa using hj)
    · rw [List.getElem?_eq_none (by omega), List.getElem?_eq_none (by omega)]
  · rintro rfl
    exact fun _ _ => rfl
end
/-- All is as it was, but for cell i of block p. -/
def RCell (p i : Nat) (w w' : World) : Prop := RBut (some p) w w' ∧ ∀ j, j ≠ i → w'.cell? ⟨p, j, none⟩ = w.cell? ⟨p, j, none⟩
theorem RCell.refl_ (p i : Nat) (w : World) : RCell p i w w := ⟨RBut.refl_ _ _, fun _ _ => rfl⟩
theorem RCell.trans_ (p i : Nat) (a b c : World) (h : RCell p i a b) (k : RCell p i b c) : RCell p i a c := ⟨RBut.trans_ _ _ _ _ h.1 k.1, fun j hj => (k.2 j hj).trans (h.2 j hj)⟩
theorem RBut.setC (w : World) (p i : Nat) (v : Value) : RBut (some p) w (w.setCell ⟨p, i, none⟩ v) :=
  ⟨rfl, rfl, rfl, by simp [World.setCell], fun k _ hk => Below.heap_setCell _ _ _ _ (fun e => hk (by rw [e]))⟩
theorem RCell.set_ {w : World} {p i : Nat} {t : TypeId} {cs : List Value} (h : Blk w p t cs) (v : Value) : RCell p i w (w.setCell ⟨p, i, none⟩ v) :=
  ⟨RBut.setC _ _ _ _, fun j hj => by rw [(h.set_ i v).cell, h.cell, List.getElem?_set_ne (Ne.symm hj)]⟩
theorem RCell.drew (p i : Nat) (w : World) : RCell p i w w.drew := ⟨RBut.of_below (Below.refl _ _).drew, fun _ _ => rfl⟩
/-- the goal's world by another spelling -/
theorem wp_at {P : Program} {c : Code} {Q : Exit → Act → World → Prop} {a : Act} {w w' : World} (h : w' = w) (hh : c.wp P Q a w') : c.wp P Q a w := h ▸ hh
theorem wpl_at {P : Program} {ops : Array Oper} {rest : List Oper} {Q : Exit → Act → World → Prop} {a : Act} {w w' : World} (h : w' = w) (hh : wpList P ops Q rest a w') : wpList P ops Q rest a w := h ▸ hh
end Go.Proofs.Ytdopgooglicaiaa
