/- The walk of capstanref2.Sum. -/
import Derived.Test.YtakebmpnbdlcoaaSum
set_option linter.unusedSimpArgs false
set_option linter.unusedVariables false
namespace Go.Proofs.Ytakebmpnbdlcoaa
open Go.RowKit
set_option maxRecDepth 100000
/-- All blocks that were there are as they were, but for two. -/
def RBut2 (p q : Nat) (w w' : World) : Prop := w'.os = w.os ∧ w'.tape = w.tape ∧ w'.output = w.output ∧ w.heap.size ≤ w'.heap.size ∧ ∀ k, k < w.heap.size → k ≠ p → k ≠ q → w'.heap[k]? = w.heap[k]?
theorem RBut2.refl_ (p q : Nat) (w : World) : RBut2 p q w w := ⟨rfl, rfl, rfl, Nat.le_refl _, fun _ _ _ _ => rfl⟩
theorem RBut2.step {p q r : Nat} {a b c : World} (h : RBut2 p q a b) (k : RBut (some r) b c) (hr : r = p ∨ r = q ∨ a.heap.size ≤ r) : RBut2 p q a c :=
  ⟨k.os.trans h.1, k.tape.trans h.2.1, k.output.trans h.2.2.1, Nat.le_trans h.2.2.2.1 k.size, fun i hi h1 h2 => (k.block i (Nat.lt_of_lt_of_le hi h.2.2.2.1) (fun e => by injection e; omega)).trans (h.2.2.2.2 i hi h1 h2)⟩
theorem RBut2.below {p q : Nat} {a b c : World} (h : RBut2 p q a b) (k : Below b.heap.size b c) : RBut2 p q a c :=
  ⟨k.os.trans h.1, k.tape.trans h.2.1, k.output.trans h.2.2.1, Nat.le_trans h.2.2.2.1 k.size, fun i hi h1 h2 => (k.block i (Nat.lt_of_lt_of_le hi h.2.2.2.1)).trans (h.2.2.2.2 i hi h1 h2)⟩
theorem RBut2.bel {p q B : Nat} {a b : World} (h : RBut2 p q a b) (hp : B ≤ p) (hq : B ≤ q) (hB : B ≤ a.heap.size) : Below B a b :=
  ⟨h.1, h.2.1, h.2.2.1, h.2.2.2.1, fun k hk => h.2.2.2.2 k (by omega) (by omega) (by omega)⟩
theorem Blk.but2 {p q b : Nat} {t : TypeId} {cs : List Value} {a w : World} (h : Blk a b t cs) (r : RBut2 p q a w) (h1 : b ≠ p) (h2 : b ≠ q) : Blk w b t cs := h.keep (r.2.2.2.2 b h.lt h1 h2)
theorem Sl.butT {p q b o size n : Nat} {xs : List Value} {a w : World} (h : Sl a size (some ⟨b, o, none⟩) n xs) (r : RBut2 p q a w) (h1 : b ≠ p) (h2 : b ≠ q) : Sl w size (some ⟨b, o, none⟩) n xs :=
  ⟨h.len, fun hn => by
    obtain ⟨b', o', e, hb, hc⟩ := h.cells hn
    simp only [Option.some.injEq, Addr.mk.injEq, and_true] at e
    obtain ⟨rfl, rfl⟩ := e
    exact ⟨b, o, rfl, Nat.lt_of_lt_of_le hb r.2.2.2.1, fun j u hu => (World.cell?_of_block (a := ⟨b, o + j, none⟩) (r.2.2.2.2 b hb h1 h2)).trans (hc j u hu)⟩⟩
theorem old_set (s old : List Nat) (i x : Nat) (hs : s.length = i) (h : i < old.length) : (V32 (s ++ old.drop i)).set i (.int .u32 (x : Int)) = V32 (s ++ [x] ++ old.drop (i + 1)) := by
  rw [V32, ← List.map_set (f := fun n : Nat => Value.int .u32 (n : Int)), List.set_append_right _ _ (by omega), hs, Nat.sub_self, List.drop_eq_getElem_cons h, List.set_cons_zero, List.append_assoc]
  rfl
theorem sum4b (a b c d : Nat) : IntKind.u32.wrap (IntKind.u32.wrap (IntKind.u32.wrap ((d : Int) + (c : Int)) + (b : Int)) + (a : Int)) = (((a + b + c + d) % 4294967296 : Nat) : Int) := by
  simp only [IntKind.wrap_u32']
  omega
theorem sum2b (x y : Nat) : IntKind.u32.wrap ((y : Int) + (x : Int)) = (((x + y) % 4294967296 : Nat) : Int) := by
  simp only [IntKind.wrap_u32']
  omega
theorem S8.bytes4 (s : S8) (i : Nat) (h : i < 8) : s.bytes.take (4 * (i + 1)) = s.bytes.take (4 * i) ++ be4 (s.list.getD i 0) := by
  match i, h with
  | 0, _ => rfl
  | 1, _ => rfl
  | 2, _ => rfl
  | 3, _ => rfl
  | 4, _ => rfl
  | 5, _ => rfl
  | 6, _ => rfl
  | 7, _ => rfl
theorem fill4 (l l' : List UInt8) (i : Nat) (a b c d : UInt8) (hl : l.length = 4 * i) (hi : i < 8) (h : l' = l ++ [a, b, c, d]) :
    ((((B8 (l ++ List.replicate (32 - 4 * i) 0)).set (4 * i) (.int .u8 (a.toNat : Int))).set (4 * i + 1) (.int .u8 (b.toNat : Int))).set (4 * i + 2) (.int .u8 (c.toNat : Int))).set (4 * i + 3) (.int .u8 (d.toNat : Int)) = B8 (l' ++ List.replicate (32 - 4 * (i + 1)) 0) := by
  rw [fill8 l _ _ a hl (by omega), fill8 (l ++ [a]) _ _ b (by simp [hl]) (by omega), fill8 (l ++ [a] ++ [b]) _ _ c (by simp [hl]) (by omega), fill8 (l ++ [a] ++ [b] ++ [c]) _ _ d (by simp [hl]) (by omega), h, show 32 - 4 * i - 1 - 1 - 1 - 1 = 32 - 4 * (i + 1) from by omega]
  simp
/-- as 'mix', the other way round -/
def mix2 (t s : S8) (j : Nat) : List Nat := (addS t s).list.take j ++ s.list.drop j
theorem mix2_at (t s : S8) (j : Nat) (h : j < 8) : ∃ x y, t.list[j]? = some x ∧ (mix2 t s j)[j]? = some y ∧ (V32 (mix2 t s j)).set j (.int .u32 (((x + y) % 4294967296 : Nat) : Int)) = V32 (mix2 t s (j + 1)) := by
  match j, h with
  | 0, _ => exact ⟨_, _, rfl, rfl, rfl⟩
  | 1, _ => exact ⟨_, _, rfl, rfl, rfl⟩
  | 2, _ => exact ⟨_, _, rfl, rfl, rfl⟩
  | 3, _ => exact ⟨_, _, rfl, rfl, rfl⟩
  | 4, _ => exact ⟨_, _, rfl, rfl, rfl⟩
  | 5, _ => exact ⟨_, _, rfl, rfl, rfl⟩
  | 6, _ => exact ⟨_, _, rfl, rfl, rfl⟩
  | 7, _ => exact ⟨_, _, rfl, rfl, rfl⟩
set_option maxRecDepth 100000 in
set_option maxHeartbeats 1000000 in
theorem words_any (w : World) : Calls Try.prog 63 #[] w fun e w' => e = .returned (.agg (V32 shaKs).toArray) ∧ Below w.heap.size w w' := by
  go_enter Try.func63, Try.ntmps63
  go_wp2_with (refine wpl_store_new rfl _ _ _ rfl 93 _ (V32 shaKs) rfl (by kernel_rfl) (by kernel_rfl) (info_64 (by kernel_rfl)) (V32_one _) ?_; intro w4 b4 hb4)
  exact bodyPost_ret (v := .agg (V32 shaKs).toArray) (results_blk Try.results63 rfl b4 Try.underlying93 rfl (info_64 (by kernel_rfl))) rfl ⟨rfl, hb4⟩
end Go.Proofs.Ytakebmpnbdlcoaa
