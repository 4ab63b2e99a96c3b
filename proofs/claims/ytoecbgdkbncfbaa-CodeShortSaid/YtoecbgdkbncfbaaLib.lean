/- Words and laws on slices that read as lists, of whatever program. -/
import Derived.WalkKit
import Derived.Maps.AppendAt
import Derived.Deep.AppendLies
import Derived.Deep.Draws
import Derived.WalkLawsBesides
import Derived.WalkSpells
import Derived.BigQuiet
import Derived.Deep.QuietTactic
import Derived.Deep.LoopGhost
import Derived.Lib.Hide
namespace Go.Proofs.Ytoecbgdkbncfbaa
open Go.RowKit

/-- The slice value '.slice A n c' reads as the cells xs ('size' cells an element). -/
structure Sl (w : World) (size : Nat) (A : Option Addr) (n : Nat) (xs : List Value) : Prop where
  len : xs.length = n * size
  cells : 0 < n → ∃ b o, A = some ⟨b, o, none⟩ ∧ b < w.heap.size ∧ ∀ j u, xs[j]? = some u → w.cell? ⟨b, o + j, none⟩ = some u

/-- The slice value '.slice A n c' owns the cells xs, in a block from number B on. -/
def Own (w : World) (B : Nat) (e : TypeId) (size : Nat) (A : Option Addr) (n c : Nat) (xs : List Value) : Prop := w.ownsRow B e size (.slice A n c) n xs

/-- The element type's row of the table. -/
structure El (P : Program) (t e : TypeId) (size bytes : Nat) : Prop where
  ht : P.underlying t = some (.slice e)
  hi : ∃ i z, P.info? e = some i ∧ i.zero = some z ∧ i.size = size ∧ i.bytes = bytes ∧ z.cells.size = size
  hsz : 0 < size

theorem El.mk' {P : Program} {t e : TypeId} {z : Value} {size bytes : Nat} (ht : P.underlying t = some (.slice e)) (h : (P.info? e).map (fun i => (i.zero, i.size, i.bytes)) = some (some z, size, bytes))
    (hz : z.cells.size = size) (hs : 0 < size) : El P t e size bytes := by
  obtain ⟨i, h1, h2, h3, h4⟩ := info_parts h
  exact ⟨ht, ⟨i, z, h1, h2, h3, h4, hz⟩, hs⟩

theorem add_off (b o j : Nat) : (⟨b, o, none⟩ : Addr).add j = ⟨b, o + j, none⟩ := by unfold Addr.add; split <;> simp_all

section
variable {w w' : World} {size n : Nat} {A : Option Addr} {xs : List Value}
theorem Sl.nil_ : Sl w size A 0 [] := ⟨by simp, fun h => absurd h (by omega)⟩
theorem Sl.keep (h : Sl w size A n xs) (hs : w.heap.size ≤ w'.heap.size) (hk : ∀ p : Addr, p.block < w.heap.size → w'.cell? p = w.cell? p) : Sl w' size A n xs :=
  ⟨h.len, fun hn => by
    obtain ⟨b, o, e, hb, hc⟩ := h.cells hn
    exact ⟨b, o, e, by omega, fun j u hu => (hk _ hb).trans (hc j u hu)⟩⟩
theorem Sl.below (h : Sl w size A n xs) {B : Nat} (hb : Below B w w') (hB : w.heap.size ≤ B) : Sl w' size A n xs := h.keep hb.size fun _ hp => hb.cell (by omega)
theorem Sl.to (h : Sl w size A n xs) (hb : Below w.heap.size w w') : Sl w' size A n xs := h.below hb (Nat.le_refl _)
theorem Sl.alloc (h : Sl w size A n xs) (o : Obj) : Sl (w.alloc o) size A n xs := h.to ((Below.refl _ _).alloc (Nat.le_refl _) o)
theorem Sl.drew (h : Sl w size A n xs) : Sl w.drew size A n xs := ⟨h.len, h.cells⟩
theorem Sl.drewN (h : Sl w size A n xs) (k : Nat) : Sl (w.drewN k) size A n xs := ⟨h.len, h.cells⟩
theorem Sl.cell {b o k : Nat} {u : Value} (h : Sl w size (some ⟨b, o, none⟩) n xs) (hk : xs[k]? = some u) : w.cell? ⟨b, o + k, none⟩ = some u := by
  have hlt : k < xs.length := by
    rcases Nat.lt_or_ge k xs.length with h | h
    · exact h
    · rw [List.getElem?_eq_none h] at hk; cases hk
  have hn : 0 < n := by
    rcases Nat.eq_zero_or_pos n with h0 | h0
    · rw [h.len, h0] at hlt; omega
    · exact h0
  obtain ⟨b', o', e, _, hc⟩ := h.cells hn
  simp only [Option.some.injEq, Addr.mk.injEq, and_true] at e
  obtain ⟨rfl, rfl⟩ := e
  exact hc k u hk
theorem Sl.some_ (h : Sl w size A n xs) (hn : 0 < n) : ∃ b o, A = some ⟨b, o, none⟩ ∧ b < w.heap.size := by
  obtain ⟨b, o, e, hb, _⟩ := h.cells hn
  exact ⟨b, o, e, hb⟩
/-- One new block, just made, that holds the cells. -/
theorem Sl.new (w : World) (cs : Array Value) (e : TypeId) (fr : Nat × Nat) (n : Nat) (h : cs.size = n * size) : Sl (w.alloc (.cells cs e fr)) size (some ⟨w.heap.size, 0, none⟩) n cs.toList :=
  ⟨by simpa using h, fun _ => ⟨w.heap.size, 0, rfl, by simp, fun j u hu => by
    rw [Nat.zero_add, cell_of_row (w.alloc (.cells cs e fr)) w.heap.size j cs e fr (heap_alloc_new w _)]
    simpa using hu⟩⟩
theorem Own.sl {B c : Nat} {e : TypeId} (h : Own w B e size A n c xs) : Sl w size A n xs := by
  refine ⟨h.1, fun hn => ?_⟩
  obtain ⟨g, cap, hv, _, hlt⟩ := h.form hn
  have hA : A = some ⟨g, 0, none⟩ := by injection hv
  subst hA
  refine ⟨g, 0, rfl, hlt, fun j u hu => ?_⟩
  have := h.cells (g := g) rfl j u hu
  rwa [add_off] at this
theorem Own.nil_ {B : Nat} {e : TypeId} : Own w B e size none 0 0 [] := World.ownsRow_nil _ _ _ _
theorem Own.len {B c : Nat} {e : TypeId} (h : Own w B e size A n c xs) : xs.length = n * size := h.1
theorem Own.alloc {B c : Nat} {e : TypeId} (h : Own w B e size A n c xs) (o : Obj) : Own (w.alloc o) B e size A n c xs := World.ownsRow.alloc h o
theorem Own.drew {B c : Nat} {e : TypeId} (h : Own w B e size A n c xs) : Own w.drew B e size A n c xs := h
theorem Own.drewN {B c : Nat} {e : TypeId} (h : Own w B e size A n c xs) (k : Nat) : Own (w.drewN k) B e size A n c xs := h
theorem Own.lt {B c : Nat} {e : TypeId} (h : Own w B e size A n c xs) : ∀ k, A.map (·.block) = some k → B ≤ k ∧ k < w.heap.size := by
  intro k hk
  refine World.ownsRow.lt h k ?_
  cases A <;> simp_all [Value.ownBlock]
theorem Own.to {B c : Nat} {e : TypeId} (h : Own w B e size A n c xs) (hb : Below w.heap.size w w') : Own w' B e size A n c xs :=
  World.ownsRow.kept (row := none) h ⟨hb.os, hb.tape, hb.output, hb.size, fun k hk _ => hb.block k hk⟩ (by cases hv : (Value.slice A n c).ownBlock <;> simp)
theorem Own.mono {B B' c : Nat} {e : TypeId} (h : Own w B e size A n c xs) (hB : B' ≤ B) : Own w B' e size A n c xs := by
  refine ⟨h.1, ?_⟩
  rcases h.2 with h | ⟨g, cap, cur, hv, hg, rest⟩
  · exact .inl h
  · exact .inr ⟨g, cap, cur, hv, by omega, rest⟩
theorem Own.le {B c : Nat} {e : TypeId} (h : Own w B e size A n c xs) : n ≤ c ∧ c ≤ maxLen := by
  rcases h.2 with ⟨h, rfl⟩ | ⟨g, cap, cur, hv, _, _, h1, h2, _⟩
  · injection h; subst_vars; exact ⟨Nat.le_refl _, Nat.zero_le _⟩
  · injection hv; subst_vars; exact ⟨h1, h2⟩
theorem Own.made (w : World) (B : Nat) (e : TypeId) (cs : Array Value) (hB : B ≤ w.heap.size) (hm : n ≤ maxLen) (hs : cs.size = n * size) :
    Own (w.alloc (.cells cs e)) B e size (some ⟨w.heap.size, 0, none⟩) n n cs.toList :=
  World.ownsRow_lit w cs n hB hm hs
end

theorem blk_own (A : Option Addr) (n c : Nat) : (Value.slice A n c).ownBlock = A.map (·.block) := by cases A <;> rfl

section
variable {P : Program} (w : World)
theorem run_append_none (base : Nat) (t ty e : TypeId) (i : TypeInfo) (size : Nat) (ht : P.underlying t = some (.slice e)) (hi : P.info? e = some i)
    (v : Value) (n : Nat) (xs : List Value) (hown : w.ownsRow base e size v n xs) (c : Nat) : (Builtin.append_ #[t, t] ty #[v, .slice none 0 c]).run P w = .ok v w := by
  rcases hown.2 with ⟨rfl, rfl⟩ | ⟨g, cap, cur, rfl, _, _, hnc, _⟩
  · simp [Builtin.append_, run_underlying ht, sizeOf, typeInfo, hi, Builtin.lenOf, Builtin.firstCells]
  · simp [Builtin.append_, run_underlying ht, sizeOf, typeInfo, hi, Builtin.lenOf, Builtin.firstCells, hnc, storeCells]

/-- append onto what the call owns, the source nil, empty or not. -/
theorem run_app {base : Nat} {t ty e : TypeId} {size bytes : Nat} (E : El P t e size bytes) {A : Option Addr} {n c : Nat} {xs : List Value} (hown : Own w base e size A n c xs)
    {A2 : Option Addr} {m c2 : Nat} {news : List Value} (hr : Sl w size A2 m news) (h1 : ∀ u ∈ news, u.oneCell' = true)
    (hb : (n + m) * bytes ≤ 140737488355328) (h63 : n + m ≤ 9223372036854775807) (hbase : base ≤ w.heap.size) :
    ∃ A' c' w', (Builtin.append_ #[t, t] ty #[.slice A n c, .slice A2 m c2]).run P w = .ok (.slice A' (n + m) c') w' ∧ Own w' base e size A' (n + m) c' (xs ++ news) ∧ w.grownBy w' (A.map (·.block)) ∧
      (A'.map (·.block) = A.map (·.block) ∨ A'.map (·.block) = some w.heap.size) ∧ (A' = none → A = none ∧ m = 0) := by
  obtain ⟨i, z, hi, hz, hs, hby, hzs⟩ := E.hi
  have key : ∀ (v' : Value) (w' : World), w'.ownsRow base e size v' (n + m) (xs ++ news) → ∃ A' c', v' = .slice A' (n + m) c' := by
    intro v' w' h
    rcases h.2 with ⟨rfl, h0⟩ | ⟨g, cap, cur, rfl, _⟩
    · exact ⟨none, 0, by rw [h0]⟩
    · exact ⟨_, _, rfl⟩
  rcases A2 with _ | ad
  · have hm : m = 0 := by
      rcases Nat.eq_zero_or_pos m with h0 | h0
      · exact h0
      · obtain ⟨_, _, h, _⟩ := hr.cells h0
        cases h
    subst hm
    have hn : news = [] := List.eq_nil_of_length_eq_zero (by simpa using hr.len)
    subst hn
    exact ⟨A, c, w, run_append_none w base t ty e i size E.ht hi _ n xs hown c2, by simpa using hown, ⟨rfl, rfl, rfl, Nat.le_refl _, fun _ _ _ => rfl⟩, .inl rfl, fun h => ⟨h, rfl⟩⟩
  · have hcells : ∀ j u, news[j]? = some u → w.cell? (ad.add j) = some u := by
      intro j u hu
      rcases Nat.eq_zero_or_pos m with h0 | h0
      · subst h0
        have hn : news = [] := List.eq_nil_of_length_eq_zero (by simpa using hr.len)
        subst hn
        simp at hu
      · obtain ⟨b, o, h, _, hc⟩ := hr.cells h0
        injection h with h
        subst h
        rw [add_off]
        exact hc j u hu
    obtain ⟨v', w', hrun, h2, h3, h4, h5⟩ := run_append_own_at (P := P) w base t ty e i z size bytes E.ht hi hz hs hby hzs E.hsz _ n xs hown ad m c2 news hr.len hcells h1 h63 hb hbase
    obtain ⟨A', c', rfl⟩ := key v' w' h2
    refine ⟨A', c', w', hrun, h2, by rw [← blk_own A n c]; exact h3, ?_, ?_⟩
    · rw [blk_own, blk_own] at h5; exact h5
    · intro hA
      subst hA
      have h0 : n + m = 0 := by
        rcases Nat.eq_zero_or_pos (n + m) with h | h
        · exact h
        · obtain ⟨g, cap, hv, _⟩ := h2.form h
          cases hv
      have hc0 : Value.slice none (n + m) c' = .slice none 0 0 := by
        rcases h2.2 with ⟨h, _⟩ | ⟨g, cap, cur, hv, _⟩
        · exact h
        · cases hv
      obtain ⟨h6, h7⟩ := h4.1 hc0
      exact ⟨by injection h6, h7⟩

theorem wpl_app {ops : Array Oper} {rest : List Oper} {o : Oper} {a : Act} {Q : Exit → Act → World → Prop} (s x : Operand) (t : TypeId) {base : Nat} {e : TypeId} {size bytes : Nat} (E : El P t e size bytes)
    (hgd : o.guard = none) (ho : o.op = .call { callee := .builtin .append, args := #[s, x], argTypes := #[t, t] })
    {A : Option Addr} {n c : Nat} {xs : List Value} (hs : a.eval s = .slice A n c) (hown : Own w base e size A n c xs)
    {A2 : Option Addr} {m c2 : Nat} {news : List Value} (hx : a.eval x = .slice A2 m c2) (hr : Sl w size A2 m news) (h1 : ∀ u ∈ news, u.oneCell' = true)
    (hb : (n + m) * bytes ≤ 140737488355328) (h63 : n + m ≤ 9223372036854775807) (hbase : base ≤ w.heap.size)
    (h : ∀ A' c' w', Own w' base e size A' (n + m) c' (xs ++ news) → w.grownBy w' (A.map (·.block)) → (A'.map (·.block) = A.map (·.block) ∨ A'.map (·.block) = some w.heap.size) → (A' = none → A = none ∧ m = 0) →
      wpList P ops Q rest (a.put o.dst (.slice A' (n + m) c')) w') : wpList P ops Q (o :: rest) a w := by
  obtain ⟨A', c', w', hrun, h2, h3, h4, h5⟩ := run_app (P := P) (ty := o.type) w E hown (c2 := c2) hr h1 hb h63 hbase
  refine wpList_plain hgd fun K hK => ?_
  unfold Oper.wp execOp
  simp only [ho, resolve, invoke, builtin, Sem.run_bind, Sem.run_pure, Result.andThen_ok, List.map_toArray, List.map_cons, List.map_nil, hs, hx, hrun]
  exact hK _ _ (h A' c' w' h2 h3 h4 h5)
end

/-- append of what a new block holds (one element written out, or some). -/
theorem wpl_push {P : Program} {w : World} {ops : Array Oper} {rest : List Oper} {o : Oper} {a : Act} {Q : Exit → Act → World → Prop} (s x : Operand) (t : TypeId) {base : Nat} {e e2 : TypeId} {fr : Nat × Nat} {size bytes : Nat} (E : El P t e size bytes)
    {cs : Array Value} (hgd : o.guard = none) (ho : o.op = .call { callee := .builtin .append, args := #[s, x], argTypes := #[t, t] })
    {A : Option Addr} {n c : Nat} {xs : List Value} (hs : a.eval s = .slice A n c) (hown : Own w base e size A n c xs)
    {m c2 : Nat} (hx : a.eval x = .slice (some ⟨w.heap.size, 0, none⟩) m c2) (hm : cs.size = m * size) (h1 : ∀ u ∈ cs.toList, u.oneCell' = true)
    (hb : (n + m) * bytes ≤ 140737488355328) (h63 : n + m ≤ 9223372036854775807) (hbase : base ≤ w.heap.size)
    (h : ∀ A' c' w', Own w' base e size A' (n + m) c' (xs ++ cs.toList) → Below base w w' → w.grownBy w' (A.map (·.block)) → (A'.map (·.block) = A.map (·.block) ∨ A'.map (·.block) = some (w.heap.size + 1)) → (A' = none → A = none ∧ m = 0) →
      wpList P ops Q rest (a.put o.dst (.slice A' (n + m) c')) w') : wpList P ops Q (o :: rest) a (w.alloc (.cells cs e2 fr)) := by
  refine wpl_app _ s x t E hgd ho hs (hown.alloc _) hx (Sl.new w cs e2 fr m hm) h1 hb h63 (by simp; omega) fun A' c' w' g1 g2 g3 g4 => ?_
  refine h A' c' w' g1 ?_ ?_ ?_ g4
  · exact ((Below.refl base w).alloc hbase _).grown g2 (by simp; omega) (fun k hk => (hown.lt k hk).1)
  · refine ⟨g2.os, g2.tape, g2.output, Nat.le_trans (by simp) g2.size, fun k hk hne => ?_⟩
    rw [g2.block k (by simp; omega) hne]
    exact heap_alloc_old w _ hk
  · simpa using g3

/-- What a step that grew one row of the call's own leaves of old memory. -/
theorem below_grown {B : Nat} {a w w' : World} {row : Option Nat} (h : Below B a w) (hg : w.grownBy w' row) (hB : B ≤ w.heap.size) (hr : ∀ k, row = some k → B ≤ k) : Below B a w' := h.grown hg hB hr

/-- A call that hands back a slice of its own. -/
def RSl (w : World) (e : TypeId) (size : Nat) (xs : List Value) (en : Ending) (w' : World) : Prop :=
  ∃ A n c, en = .returned (.slice A n c) ∧ Own w' w.heap.size e size A n c xs ∧ Below w.heap.size w w'

theorem RSl.mk {w w' : World} {e : TypeId} {size n : Nat} {xs : List Value} {A : Option Addr} {c : Nat} (h1 : Own w' w.heap.size e size A n c xs) (h2 : Below w.heap.size w w') :
    RSl w e size xs (.returned (.slice A n c)) w' := ⟨A, n, c, rfl, h1, h2⟩

/-- Bytes as values. -/
def b8 (c : UInt8) : Value := .int .u8 (c.toNat : Int)
def B8 (l : List UInt8) : List Value := l.map b8
theorem B8_len (l : List UInt8) : (B8 l).length = l.length := by simp [B8]
theorem B8_app (a b : List UInt8) : B8 (a ++ b) = B8 a ++ B8 b := by simp [B8]
theorem B8_one (l : List UInt8) : ∀ u ∈ B8 l, u.oneCell' = true := by
  intro u hu
  obtain ⟨c, _, rfl⟩ := List.mem_map.1 hu
  rfl
theorem B8_get (l : List UInt8) (k : Nat) (h : k < l.length) : (B8 l)[k]? = some (.int .u8 (l[k].toNat : Int)) := by
  simp [B8, b8, h]

theorem Sl.len8 {w : World} {A : Option Addr} {n : Nat} {l : List UInt8} (h : Sl w 1 A n (B8 l)) : n = l.length := by have := h.len; rw [B8_len] at this; omega
theorem Own.len8 {w : World} {B c : Nat} {e : TypeId} {A : Option Addr} {n : Nat} {l : List UInt8} (h : Own w B e 1 A n c (B8 l)) : n = l.length := h.sl.len8

/-- append of one byte. -/
theorem wpl_push8 {P : Program} {w : World} {ops : Array Oper} {rest : List Oper} {o : Oper} {a : Act} {Q : Exit → Act → World → Prop} (s x : Operand) (t : TypeId) {base : Nat} {e e2 : TypeId} {fr : Nat × Nat} (E : El P t e 1 1)
    {y : Int} (hgd : o.guard = none) (ho : o.op = .call { callee := .builtin .append, args := #[s, x], argTypes := #[t, t] })
    {A : Option Addr} {n c : Nat} {pre : List UInt8} (hs : a.eval s = .slice A n c) (hown : Own w base e 1 A n c (B8 pre))
    {c2 : Nat} (hx : a.eval x = .slice (some ⟨w.heap.size, 0, none⟩) 1 c2) (y8 : UInt8) (hy : y = (y8.toNat : Int))
    (hb : n < 140737488355328) (hbase : base ≤ w.heap.size)
    (h : ∀ A' c' w', Own w' base e 1 A' (n + 1) c' (B8 (pre ++ [y8])) → Below base w w' → w.grownBy w' (A.map (·.block)) → (A'.map (·.block) = A.map (·.block) ∨ A'.map (·.block) = some (w.heap.size + 1)) →
      wpList P ops Q rest (a.put o.dst (.slice A' (n + 1) c')) w') : wpList P ops Q (o :: rest) a (w.alloc (.cells #[.int .u8 y] e2 fr)) := by
  subst hy
  refine wpl_push s x t E (cs := #[.int .u8 (y8.toNat : Int)]) hgd ho hs hown hx rfl (by intro u hu; simp at hu; subst hu; rfl) (by omega) (by omega) hbase fun A' c' w' g1 g2 g3 g4 _ => ?_
  exact h A' c' w' (by rw [B8_app]; exact g1) g2 g3 g4

theorem Sl.at8 {w : World} {A : Option Addr} {n : Nat} {l : List UInt8} (h : Sl w 1 A n (B8 l)) (hn : 0 < n) :
    ∃ b o, A = some ⟨b, o, none⟩ ∧ b < w.heap.size ∧ ∀ (k : Nat) (x : UInt8), l[k]? = some x → w.cell? ⟨b, o + k, none⟩ = some (.int .u8 (x.toNat : Int)) := by
  obtain ⟨b, o, e, hb, hc⟩ := h.cells hn
  exact ⟨b, o, e, hb, fun k x hx => hc k _ (by simp [B8, hx, b8])⟩
theorem Own.at8 {w : World} {B c : Nat} {e : TypeId} {A : Option Addr} {n : Nat} {l : List UInt8} (h : Own w B e 1 A n c (B8 l)) (hn : 0 < n) :
    ∃ b, A = some ⟨b, 0, none⟩ ∧ B ≤ b ∧ b < w.heap.size ∧ ∀ (k : Nat) (x : UInt8), l[k]? = some x → w.cell? ⟨b, k, none⟩ = some (.int .u8 (x.toNat : Int)) := by
  obtain ⟨g, cap, hv, hB, hlt⟩ := h.form hn
  have hA : A = some ⟨g, 0, none⟩ := by injection hv
  subst hA
  refine ⟨g, rfl, hB, hlt, fun k x hx => ?_⟩
  have := h.sl.cell (k := k) (u := .int .u8 (x.toNat : Int)) (by simp [B8, hx, b8])
  simpa using this

/-- A call that hands back a bool and leaves old memory alone. -/
def RB (b : Bool) (w : World) (en : Ending) (w' : World) : Prop := en = .returned (.bool b) ∧ Below w.heap.size w w'

theorem ret_int {k : IntKind} {a b : Int} (h : a = b) : Ending.returned (.int k a) = .returned (.int k b) := by rw [h]

end Go.Proofs.Ytoecbgdkbncfbaa
