/- A dispute's game as cells: its fields are read, and stored. -/
import Derived.Test.YtakebmpnbdlcoaaStruct
import Derived.Test.YtakebmpnbdlcoaaEqH
set_option linter.unusedSimpArgs false
set_option linter.unusedVariables false
namespace Go.Proofs.Ytakebmpnbdlcoaa
open Go.RowKit
set_option maxRecDepth 100000

/-- What a game is, but for its transactions. -/
structure GD where
  lo : Int
  hi : Int
  rlo : List UInt8
  rhi : List UInt8
  mid : List UInt8
  turn : Int
  moves : Int
  limit : Int
  won : Bool
  cl : Int
  ref : Int
  deriving DecidableEq
structure GLen (d : GD) : Prop where
  rlo : d.rlo.length = 32
  rhi : d.rhi.length = 32
  mid : d.mid.length = 32
def gtail (d : GD) : List Value := [.int .i64 d.turn, .int .i64 d.moves, .int .i64 d.limit, .bool d.won, .int .i64 d.cl, .int .i64 d.ref]
def gcells (v : Value) (d : GD) : List Value := [v, .int .i64 d.lo, .int .i64 d.hi] ++ (B8 d.rlo ++ (B8 d.rhi ++ (B8 d.mid ++ gtail d)))
def gval (v : Value) (d : GD) : Value := .agg (gcells v d).toArray
/-- sums, one behind the other -/
def H8 (hs : List (List UInt8)) : List Value := hs.flatMap B8
theorem gcells_len {v : Value} {d : GD} (h : GLen d) : (gcells v d).length = 105 := by
  simp [gcells, gtail, B8_len, h.rlo, h.rhi, h.mid]
theorem gcells_one {v : Value} {d : GD} (hv : v.oneCell' = true) : ∀ u ∈ gcells v d, u.oneCell' = true := by
  intro u hu
  simp only [gcells, gtail, List.mem_append, List.mem_cons, List.not_mem_nil, or_false] at hu
  rcases hu with (rfl | rfl | rfl) | hu | hu | hu | (rfl | rfl | rfl | rfl | rfl | rfl)
  all_goals first | exact hv | exact B8_one _ _ hu | rfl
section
variable {v : Value} {d : GD}
theorem g_tail (h : GLen d) (k : Nat) : (gcells v d)[99 + k]? = (gtail d)[k]? := by
  unfold gcells
  rw [List.getElem?_append_right (by simp; omega), List.getElem?_append_right (by rw [B8_len, h.rlo]; simp; omega), List.getElem?_append_right (by rw [B8_len, B8_len, h.rlo, h.rhi]; simp; omega),
    List.getElem?_append_right (by rw [B8_len, B8_len, B8_len, h.rlo, h.rhi, h.mid]; simp; omega)]
  congr 1
  rw [B8_len, B8_len, B8_len, h.rlo, h.rhi, h.mid]
  simp
  omega
theorem g_rlo (h : GLen d) : ((gcells v d).drop 3).take (B8 d.rlo).length = B8 d.rlo := by simp [gcells]
theorem g_rhi (h : GLen d) : ((gcells v d).drop 35).take (B8 d.rhi).length = B8 d.rhi := by
  have : (gcells v d).drop 35 = B8 d.rhi ++ (B8 d.mid ++ gtail d) := by
    unfold gcells
    rw [← List.append_assoc]
    exact List.drop_left' (by simp [B8_len, h.rlo])
  rw [this, List.take_left' rfl]
theorem g_mid (h : GLen d) : ((gcells v d).drop 67).take (B8 d.mid).length = B8 d.mid := by
  have : (gcells v d).drop 67 = B8 d.mid ++ gtail d := by
    unfold gcells
    rw [← List.append_assoc, ← List.append_assoc]
    exact List.drop_left' (by simp [B8_len, h.rlo, h.rhi])
  rw [this, List.take_left' rfl]
theorem p_txs (u : Value) : put_ (gcells v d) 0 [u] = gcells u d := by simp [put_, gcells]
theorem p_lo (x : Int) : put_ (gcells v d) 1 [.int .i64 x] = gcells v { d with lo := x } := by simp [put_, gcells, gtail]
theorem p_hi (x : Int) : put_ (gcells v d) 2 [.int .i64 x] = gcells v { d with hi := x } := by simp [put_, gcells, gtail]
theorem p_rlo (h : GLen d) (x : List UInt8) (hx : x.length = 32) : put_ (gcells v d) 3 (B8 x) = gcells v { d with rlo := x } := by
  have := put_mid [v, .int .i64 d.lo, .int .i64 d.hi] (B8 d.rlo) (B8 d.rhi ++ (B8 d.mid ++ gtail d)) (B8 x) (by simp [B8_len, h.rlo, hx])
  simpa [gcells, gtail] using this
theorem p_rhi (h : GLen d) (x : List UInt8) (hx : x.length = 32) : put_ (gcells v d) 35 (B8 x) = gcells v { d with rhi := x } := by
  have := put_mid ([v, .int .i64 d.lo, .int .i64 d.hi] ++ B8 d.rlo) (B8 d.rhi) (B8 d.mid ++ gtail d) (B8 x) (by simp [B8_len, h.rhi, hx])
  rw [show ([v, Value.int .i64 d.lo, .int .i64 d.hi] ++ B8 d.rlo).length = 35 from by simp [B8_len, h.rlo]] at this
  simpa [gcells, gtail] using this
theorem p_mid (h : GLen d) (x : List UInt8) (hx : x.length = 32) : put_ (gcells v d) 67 (B8 x) = gcells v { d with mid := x } := by
  have := put_mid ([v, .int .i64 d.lo, .int .i64 d.hi] ++ B8 d.rlo ++ B8 d.rhi) (B8 d.mid) (gtail d) (B8 x) (by simp [B8_len, h.mid, hx])
  rw [show ([v, Value.int .i64 d.lo, .int .i64 d.hi] ++ B8 d.rlo ++ B8 d.rhi).length = 67 from by simp [B8_len, h.rlo, h.rhi]] at this
  simpa [gcells, gtail] using this
theorem p_tail (h : GLen d) (k : Nat) (u : Value) (hk : k < 6) (d' : GD) (h1 : d'.lo = d.lo) (h2 : d'.hi = d.hi) (h3 : d'.rlo = d.rlo) (h4 : d'.rhi = d.rhi) (h5 : d'.mid = d.mid) (ht : (gtail d).set k u = gtail d') :
    put_ (gcells v d) (99 + k) [u] = gcells v d' := by
  rw [put_one _ _ _ (by rw [gcells_len h]; omega)]
  unfold gcells
  rw [h1, h2, h3, h4, h5, ← ht]
  rw [List.set_append_right _ _ (by simp; omega), List.set_append_right _ _ (by rw [B8_len, h.rlo]; simp; omega), List.set_append_right _ _ (by rw [B8_len, B8_len, h.rlo, h.rhi]; simp; omega),
    List.set_append_right _ _ (by rw [B8_len, B8_len, B8_len, h.rlo, h.rhi, h.mid]; simp; omega)]
  rw [B8_len, B8_len, B8_len, h.rlo, h.rhi, h.mid]
  simp only [List.length_cons, List.length_nil]
  rw [show 99 + k - (0 + 1 + 1 + 1) - 32 - 32 - 32 = k from by omega]
theorem p_turn (h : GLen d) (x : Int) : put_ (gcells v d) 99 [.int .i64 x] = gcells v { d with turn := x } := p_tail h 0 _ (by omega) _ rfl rfl rfl rfl rfl rfl
theorem p_moves (h : GLen d) (x : Int) : put_ (gcells v d) 100 [.int .i64 x] = gcells v { d with moves := x } := p_tail h 1 _ (by omega) _ rfl rfl rfl rfl rfl rfl
theorem p_limit (h : GLen d) (x : Int) : put_ (gcells v d) 101 [.int .i64 x] = gcells v { d with limit := x } := p_tail h 2 _ (by omega) _ rfl rfl rfl rfl rfl rfl
theorem p_won (h : GLen d) (x : Bool) : put_ (gcells v d) 102 [.bool x] = gcells v { d with won := x } := p_tail h 3 _ (by omega) _ rfl rfl rfl rfl rfl rfl
theorem p_cl (h : GLen d) (x : Int) : put_ (gcells v d) 103 [.int .i64 x] = gcells v { d with cl := x } := p_tail h 4 _ (by omega) _ rfl rfl rfl rfl rfl rfl
theorem p_ref (h : GLen d) (x : Int) : put_ (gcells v d) 104 [.int .i64 x] = gcells v { d with ref := x } := p_tail h 5 _ (by omega) _ rfl rfl rfl rfl rfl rfl
end
/-- A block that holds a game. -/
structure GB (t : TypeId) (w : World) (b : Nat) (v : Value) (d : GD) : Prop where
  blk : Blk w b t (gcells v d)
  len : GLen d
section
variable {t : TypeId} {w w' : World} {b : Nat} {v : Value} {d : GD}
theorem GB.c0 (h : GB t w b v d) : w.cell? ⟨b, 0, none⟩ = some v := by rw [h.blk.cell]; rfl
theorem GB.c1 (h : GB t w b v d) : w.cell? ⟨b, 1, none⟩ = some (.int .i64 d.lo) := by rw [h.blk.cell]; rfl
theorem GB.c2 (h : GB t w b v d) : w.cell? ⟨b, 2, none⟩ = some (.int .i64 d.hi) := by rw [h.blk.cell]; rfl
theorem GB.c99 (h : GB t w b v d) : w.cell? ⟨b, 99, none⟩ = some (.int .i64 d.turn) := by rw [h.blk.cell, g_tail h.len 0]; rfl
theorem GB.c100 (h : GB t w b v d) : w.cell? ⟨b, 100, none⟩ = some (.int .i64 d.moves) := by rw [h.blk.cell, g_tail h.len 1]; rfl
theorem GB.c101 (h : GB t w b v d) : w.cell? ⟨b, 101, none⟩ = some (.int .i64 d.limit) := by rw [h.blk.cell, g_tail h.len 2]; rfl
theorem GB.c102 (h : GB t w b v d) : w.cell? ⟨b, 102, none⟩ = some (.bool d.won) := by rw [h.blk.cell, g_tail h.len 3]; rfl
theorem GB.c103 (h : GB t w b v d) : w.cell? ⟨b, 103, none⟩ = some (.int .i64 d.cl) := by rw [h.blk.cell, g_tail h.len 4]; rfl
theorem GB.c104 (h : GB t w b v d) : w.cell? ⟨b, 104, none⟩ = some (.int .i64 d.ref) := by rw [h.blk.cell, g_tail h.len 5]; rfl
theorem GB.r3 (h : GB t w b v d) : w.rangeAt b 3 (B8 d.rlo) := h.blk.sub 3 _ (g_rlo h.len)
theorem GB.r35 (h : GB t w b v d) : w.rangeAt b 35 (B8 d.rhi) := h.blk.sub 35 _ (g_rhi h.len)
theorem GB.r67 (h : GB t w b v d) : w.rangeAt b 67 (B8 d.mid) := h.blk.sub 67 _ (g_mid h.len)
theorem GB.to (h : GB t w b v d) (hb : Below w.heap.size w w') : GB t w' b v d := ⟨h.blk.to hb, h.len⟩
theorem GB.but {row : Option Nat} (h : GB t w b v d) (hb : RBut row w w') (hne : some b ≠ row) : GB t w' b v d := ⟨h.blk.but hb hne, h.len⟩
theorem GB.lt (h : GB t w b v d) : b < w.heap.size := h.blk.lt
theorem GB.bel {B : Nat} (h : GB t w b v d) (hb : Below B w w') (hB : b < B) : GB t w' b v d := ⟨h.blk.below hb hB, h.len⟩
end
section
variable {P : Program} {ops : Array Oper} {rest : List Oper} {op : Oper} {a : Act} {Q : Exit → Act → World → Prop} {t : TypeId} {w : World} {b : Nat} {v : Value} {d : GD}
/-- a field of a game is stored -/
theorem wpl_gstore (gb : GB t w b v d) (o : Nat) {v' : Value} {d' : GD} {new : List Value} (hp : put_ (gcells v d) o new = gcells v' d') (hd' : GLen d') (hw : Region.wanted op (yielded ops a.tmps) = true) (ty : TypeId) (x y : Operand) (ho : op.op = .store ty x y)
    (hx : a.eval x = .pointer (some ⟨b, o, none⟩)) (v0 : Value) (hy : a.eval y = v0) (hv : v0.cells = new.toArray) (hl : o + new.length ≤ 105)
    (hi : (P.info? ty).map (·.size) = some new.length) (h1 : ∀ u ∈ new, u.oneCell' = true)
    (h : ∀ w', GB t w' b v' d' → RBut (some b) w w' → wpList P ops Q rest (a.put op.dst undef) w') : wpList P ops Q (op :: rest) a w :=
  wpl_store_fld hw ty x y ho b o t _ new hx v0 hy hv gb.blk (by rw [gcells_len gb.len]; exact hl) hi h1 fun w' h2 h3 => h w' ⟨by rw [← hp]; exact h2, hd'⟩ h3
/-- a field of one cell is stored -/
theorem wpl_gset (gb : GB t w b v d) (o : Nat) {v' v0 : Value} {d' : GD} (hp : put_ (gcells v d) o [v0] = gcells v' d') (hd' : GLen d') (hl : o < 105) (hw : Region.wanted op (yielded ops a.tmps) = true) (ty : TypeId) (x y : Operand) (ho : op.op = .store ty x y)
    (hx : a.eval x = .pointer (some ⟨b, o, none⟩)) (hy : a.eval y = v0) (hv : v0.cells = #[v0]) (hi : (P.info? ty).map (·.size) = some 1) (h1 : v0.oneCell' = true)
    (h : ∀ w', GB t w' b v' d' → RBut (some b) w w' → wpList P ops Q rest (a.put op.dst undef) w') : wpList P ops Q (op :: rest) a w :=
  wpl_gstore gb o hp hd' hw ty x y ho hx v0 hy hv (by simp; omega) hi (by intro u hu; simp at hu; subst hu; exact h1) h
/-- a whole game is read -/
theorem wpl_gload (gb : GB t w b v d) (hw : Region.wanted op (yielded ops a.tmps) = true) (ty : TypeId) (x : Operand) (ho : op.op = .load ty x) (hx : a.eval x = .pointer (some ⟨b, 0, none⟩)) (ds : TypeDesc)
    (hu : P.underlying ty = some ds) (hd : ds.isRow = true) (hi : (P.info? ty).map (·.size) = some 105)
    (h : wpList P ops Q rest (a.put op.dst (gval v d)) w) : wpList P ops Q (op :: rest) a w :=
  wpl_load_fld hw ty x ho b 0 hx (gcells v d) ds gb.blk.range hu hd (by rw [hi, gcells_len gb.len]) h
/-- a whole game is stored -/
theorem wpl_gput {cs : List Value} (hb : Blk w b t cs) (hl : cs.length = 105) (hd : GLen d) (h1 : v.oneCell' = true) (hw : Region.wanted op (yielded ops a.tmps) = true) (ty : TypeId) (x y : Operand) (ho : op.op = .store ty x y)
    (hx : a.eval x = .pointer (some ⟨b, 0, none⟩)) (hy : a.eval y = gval v d) (hi : (P.info? ty).map (·.size) = some 105)
    (h : ∀ w', GB t w' b v d → RBut (some b) w w' → wpList P ops Q rest (a.put op.dst undef) w') : wpList P ops Q (op :: rest) a w :=
  wpl_store_fld hw ty x y ho b 0 t cs (gcells v d) hx _ hy rfl hb (by rw [gcells_len hd]; omega) (by rw [hi, gcells_len hd]) (gcells_one h1) fun w' h2 h3 => h w' ⟨by rw [put_all _ _ (by rw [gcells_len hd, hl])] at h2; exact h2, hd⟩ h3
end
end Go.Proofs.Ytakebmpnbdlcoaa
