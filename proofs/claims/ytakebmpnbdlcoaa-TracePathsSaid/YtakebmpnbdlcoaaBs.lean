/- A slice of sums, written out. -/
import Derived.Test.YtakebmpnbdlcoaaRootS
import Derived.Great.BuildSlice
set_option linter.unusedSimpArgs false
set_option linter.unusedVariables false
namespace Go.Proofs.Ytakebmpnbdlcoaa
open Go.RowKit
set_option maxRecDepth 100000
theorem fill_H8 : ∀ (hs : List (List UInt8)) (k : Nat) (L : List (List UInt8)), (∀ x ∈ L, x.length = 32) → (∀ x ∈ hs, x.length = 32) → k + hs.length ≤ L.length →
    Instr.fill (fun i => some (i * 32, 32)) (H8 L).toArray ((hs.zipIdx k).map fun x => (x.2, Value.agg (B8 x.1).toArray)) = some (H8 (L.take k ++ hs ++ L.drop (k + hs.length))).toArray
  | [], k, L, hL, hh, hk => by simp [fill_nil]
  | h :: hs, k, L, hL, hh, hk => by
    simp only [List.length_cons] at hk
    have h32 := hh h (by simp)
    have hlen := H8_len L hL
    rw [List.zipIdx_cons, List.map_cons]
    rw [fill_cons _ (H8 L) (B8 h) k (k * 32) _ _ (by rw [B8_len, h32]) rfl (by rw [B8_len, h32, hlen]; omega)]
    have hp := put_H8 L [] k h hL h32 (by omega)
    rw [List.append_nil, List.append_nil] at hp
    rw [hp]
    have hL' : ∀ x ∈ L.set k h, x.length = 32 := fun z hz => by
      rcases List.mem_or_eq_of_mem_set hz with h1 | h1
      · exact hL z h1
      · rw [h1]; exact h32
    rw [fill_H8 hs (k + 1) (L.set k h) hL' (fun x hx => hh x (by simp [hx])) (by rw [List.length_set]; omega)]
    congr 3
    rw [List.take_set, List.drop_set_of_lt (by omega), List.take_add_one, List.getElem?_eq_getElem (by omega : k < L.length)]
    have e2 : (List.take k L).length = k := by rw [List.length_take]; omega
    rw [List.set_append_right _ _ (by rw [e2]; exact Nat.le_refl _), e2]
    simp only [Nat.sub_self, Option.toList_some, List.set_cons_zero, List.append_assoc, List.cons_append, List.nil_append, List.length_cons]
    rw [show k + 1 + hs.length = k + (hs.length + 1) from by omega]
theorem made_rep (n : Nat) : (Array.range (n * 32)).map ((Value.agg #[.int .u8 0, .int .u8 0, .int .u8 0, .int .u8 0, .int .u8 0, .int .u8 0, .int .u8 0, .int .u8 0, .int .u8 0, .int .u8 0, .int .u8 0, .int .u8 0, .int .u8 0, .int .u8 0, .int .u8 0, .int .u8 0, .int .u8 0, .int .u8 0, .int .u8 0, .int .u8 0, .int .u8 0, .int .u8 0, .int .u8 0, .int .u8 0, .int .u8 0, .int .u8 0, .int .u8 0, .int .u8 0, .int .u8 0, .int .u8 0, .int .u8 0, .int .u8 0]).cells[· % (Value.agg #[.int .u8 0, .int .u8 0, .int .u8 0, .int .u8 0, .int .u8 0, .int .u8 0, .int .u8 0, .int .u8 0, .int .u8 0, .int .u8 0, .int .u8 0, .int .u8 0, .int .u8 0, .int .u8 0, .int .u8 0, .int .u8 0, .int .u8 0, .int .u8 0, .int .u8 0, .int .u8 0, .int .u8 0, .int .u8 0, .int .u8 0, .int .u8 0, .int .u8 0, .int .u8 0, .int .u8 0, .int .u8 0, .int .u8 0, .int .u8 0, .int .u8 0, .int .u8 0]).cells.size]!) = (H8 (List.replicate n zero32)).toArray := by
  apply Array.toList_inj.1
  exact rep_made n
theorem wp_bs {o : Oper} {a : Act} {w : World} {K : Act → World → Prop} {Q : Exit → Act → World → Prop} (n : Nat) (parts : Array (Nat × Operand)) (ho : o.op = .buildSlice 52 n parts) (hs : List (List UInt8)) (hl : ∀ x ∈ hs, x.length = 32) (hn : hs.length = n) (h0 : 0 < n) (h9 : n ≤ 1000)
    (hp : (parts.map fun (i, x) => (i, a.eval x)).toList = (hs.zipIdx 0).map fun x => (x.2, Value.agg (B8 x.1).toArray))
    (h : K (a.put o.dst (.slice (some ⟨w.heap.size, 0, none⟩) n n)) (w.alloc (.cells (H8 hs).toArray 27))) : o.wp Try.prog a w K Q := by
  obtain ⟨i, hi, hz0, hz1, hz2⟩ := info_parts (P := Try.prog) (e := 27) (z := .agg #[.int .u8 0, .int .u8 0, .int .u8 0, .int .u8 0, .int .u8 0, .int .u8 0, .int .u8 0, .int .u8 0, .int .u8 0, .int .u8 0, .int .u8 0, .int .u8 0, .int .u8 0, .int .u8 0, .int .u8 0, .int .u8 0, .int .u8 0, .int .u8 0, .int .u8 0, .int .u8 0, .int .u8 0, .int .u8 0, .int .u8 0, .int .u8 0, .int .u8 0, .int .u8 0, .int .u8 0, .int .u8 0, .int .u8 0, .int .u8 0, .int .u8 0, .int .u8 0]) (size := 32) (bytes := 32) (by kernel_rfl)
  refine wp_buildSlice 52 27 n parts ho (H8 hs).toArray i _ Try.underlying52 hi hz0 (by rw [hz1]; omega) (by rw [hz1]; omega) ?_ h
  rw [hz1, hp, made_rep, fill_H8 hs 0 _ (by intro x hx; rw [List.eq_of_mem_replicate hx]; rfl) hl (by simp [hn])]
  simp [hn]
theorem wpl_bs {ops : Array Oper} {rest : List Oper} {o : Oper} {a : Act} {w : World} {Q : Exit → Act → World → Prop} (hw : Region.wanted o (yielded ops a.tmps) = true) (n : Nat) (parts : Array (Nat × Operand)) (ho : o.op = .buildSlice 52 n parts) (hs : List (List UInt8)) (hl : ∀ x ∈ hs, x.length = 32) (hn : hs.length = n) (h0 : 0 < n) (h9 : n ≤ 1000)
    (hp : (parts.map fun (i, x) => (i, a.eval x)).toList = (hs.zipIdx 0).map fun x => (x.2, Value.agg (B8 x.1).toArray))
    (h : wpList Try.prog ops Q rest (a.put o.dst (.slice (some ⟨w.heap.size, 0, none⟩) n n)) (w.alloc (.cells (H8 hs).toArray 27))) : wpList Try.prog ops Q (o :: rest) a w :=
  wpList_wanted hw (wp_bs n parts ho hs hl hn h0 h9 hp h)
theorem wpC_bs {ops : Array Oper} {Q : Exit → Act → World → Prop} {R : World → World → Prop} {i : Nat} {rest : List (Nat × Bool)} {o : Oper} {a : Act} {w : World} (hno : nth ops.toList i = some o) (hw : Region.wanted o (yielded ops a.tmps) = true) (n : Nat) (parts : Array (Nat × Operand)) (ho : o.op = .buildSlice 52 n parts) (hs : List (List UInt8)) (hl : ∀ x ∈ hs, x.length = 32) (hn : hs.length = n) (h0 : 0 < n) (h9 : n ≤ 1000)
    (hp : (parts.map fun (i, x) => (i, a.eval x)).toList = (hs.zipIdx 0).map fun x => (x.2, Value.agg (B8 x.1).toArray)) (hR : R w (w.alloc (.cells (H8 hs).toArray 27)))
    (h : wpC Try.prog ops Q R rest (a.put o.dst (.slice (some ⟨w.heap.size, 0, none⟩) n n)) (w.alloc (.cells (H8 hs).toArray 27))) : wpC Try.prog ops Q R ((i, false) :: rest) a w := by
  unfold wpC wpOp
  simp only [nth_ops hno, hw, if_true]
  refine .inl ?_
  exact wp_bs n parts ho hs hl hn h0 h9 hp ⟨hR, h⟩
theorem Sl.new32 (w : World) (hs : List (List UInt8)) (e : TypeId) (hl : ∀ x ∈ hs, x.length = 32) : Sl (w.alloc (.cells (H8 hs).toArray e)) 32 (some ⟨w.heap.size, 0, none⟩) hs.length (H8 hs) := by
  have := Sl.new (size := 32) w (H8 hs).toArray e (0, 0) hs.length (by rw [List.size_toArray, H8_len hs hl]; omega)
  simpa using this
end Go.Proofs.Ytakebmpnbdlcoaa
