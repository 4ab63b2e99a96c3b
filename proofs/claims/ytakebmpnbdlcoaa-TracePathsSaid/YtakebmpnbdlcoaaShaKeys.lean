/- Walks: sha.keys, sha.begun; laws of a round. -/
import Derived.Test.YtakebmpnbdlcoaaSpread
import Derived.Deep.Cut
import Derived.StillTailTactics
set_option linter.unusedSimpArgs false
set_option linter.unusedVariables false
namespace Go.Proofs.Ytakebmpnbdlcoaa
open Go.RowKit
set_option maxRecDepth 100000
theorem info_64 {l : List Nat} (h : l.length = 64) : (Try.prog.info? 93).map (·.size) = some (V32 l).length := by rw [V32_len, h]; kernel_rfl
theorem info_8 {l : List Nat} (h : l.length = 8) : (Try.prog.info? 89).map (·.size) = some (V32 l).length := by rw [V32_len, h]; kernel_rfl
theorem info_st {l : List Nat} (h : l.length = 8) : (Try.prog.info? 90).map (·.size) = some (V32 l).length := by rw [V32_len, h]; kernel_rfl
set_option maxRecDepth 100000 in
set_option maxHeartbeats 1000000 in
theorem keys_any (w : World) : Calls Try.prog 67 #[] w fun e w' => e = .returned (.agg (V32 shaKs).toArray) ∧ Below w.heap.size w w' := by
  go_enter Try.func67, Try.ntmps67
  go_wp2_with (refine wpl_store_new rfl _ _ _ rfl 93 _ (V32 shaKs) rfl (by kernel_rfl) (by kernel_rfl) (info_64 (by kernel_rfl)) (V32_one _) ?_; intro w4 b4 hb4)
  exact bodyPost_ret (v := .agg (V32 shaKs).toArray) (results_blk Try.results67 rfl b4 Try.underlying93 rfl (info_64 (by kernel_rfl))) rfl ⟨rfl, hb4⟩
set_option maxRecDepth 100000 in
theorem begun_any (w : World) : Calls Try.prog 61 #[] w fun e w' => e = .returned (.agg (V32 shaBegun.list).toArray) ∧ Below w.heap.size w w' := by
  go_enter Try.func61, Try.ntmps61
  go_wp2_with (refine wpl_store_new rfl _ _ _ rfl 90 _ (V32 shaBegun.list) rfl (by kernel_rfl) rfl (info_st rfl) (V32_one _) ?_; intro w4 b4 hb4)
  exact bodyPost_ret (v := .agg (V32 shaBegun.list).toArray) (results_blk Try.results61 rfl b4 Try.underlying90 rfl (info_st rfl)) rfl ⟨rfl, hb4⟩
theorem Blk.at_ {w : World} {p : Nat} {t : TypeId} {cs : List Value} (hb : Blk w p t cs) (k : Nat) {v : Value} (h : cs[k]? = some v) : ∀ w', RBel w w' → w'.cell? ⟨p, k, none⟩ = some v := fun w' hw' => by rw [(hb.to hw').cell, h]
theorem sum5 (a b c d e : Nat) : IntKind.u32.wrap (IntKind.u32.wrap (IntKind.u32.wrap (IntKind.u32.wrap ((a : Int) + (b : Int)) + (c : Int)) + (d : Int)) + (e : Int)) = (((a + b + c + d + e) % 4294967296 : Nat) : Int) := by
  simp only [IntKind.wrap_u32']
  omega
theorem sum2 (a b : Nat) : IntKind.u32.wrap ((a : Int) + (b : Int)) = (((a + b) % 4294967296 : Nat) : Int) := by
  simp only [IntKind.wrap_u32']
  omega
theorem max_u32 : IntKind.u32.max = 4294967295 := rfl
theorem xor_all32 (x : Nat) (h : x < 4294967296) : 4294967295 ^^^ x = 4294967295 - x := by
  have e := congrArg BitVec.toNat (BitVec.allOnes_xor (x := BitVec.ofNat 32 x))
  rw [BitVec.toNat_xor, BitVec.toNat_not, BitVec.toNat_allOnes, BitVec.toNat_ofNat] at e
  simp only [Nat.reducePow, Nat.add_one_sub_one] at e
  rw [Nat.mod_eq_of_lt h] at e
  exact e
theorem chs_bits (e f g : Nat) (he : e < 4294967296) (hf : f < 4294967296) (hg : g < 4294967296) : bits .xor .u32 (bits .and .u32 (e : Int) (f : Int)) (bits .and .u32 (bits .xor .u32 IntKind.u32.max (e : Int)) (g : Int)) = ((chs e f g : Nat) : Int) := by
  rw [max_u32, show (4294967295 : Int) = ((4294967295 : Nat) : Int) from rfl, u32_xor_nat _ _ (by decide) he, xor_all32 e he, u32_and_nat _ _ he hf, u32_and_nat _ _ (by omega) hg, u32_xor_nat _ _ (and_lt he) (and_lt (by omega))]
  rfl
theorem maj_bits (a b c : Nat) (ha : a < 4294967296) (hb : b < 4294967296) (hc : c < 4294967296) : bits .xor .u32 (bits .xor .u32 (bits .and .u32 (a : Int) (b : Int)) (bits .and .u32 (a : Int) (c : Int))) (bits .and .u32 (b : Int) (c : Int)) = ((maj a b c : Nat) : Int) := by
  rw [u32_and_nat _ _ ha hb, u32_and_nat _ _ ha hc, u32_and_nat _ _ hb hc, u32_xor_nat _ _ (and_lt ha) (and_lt ha), u32_xor_nat _ _ (xor_lt (and_lt ha) (and_lt ha)) (and_lt hb)]
  rfl
def S8.ok (s : S8) : Prop := s.a < 4294967296 ∧ s.b < 4294967296 ∧ s.c < 4294967296 ∧ s.d < 4294967296 ∧ s.e < 4294967296 ∧ s.f < 4294967296 ∧ s.g < 4294967296 ∧ s.h < 4294967296
theorem rnd_ok {s : S8} {k w : Nat} (h : s.ok) : (rnd s k w).ok := ⟨Nat.mod_lt _ (by decide), h.1, h.2.1, h.2.2.1, Nat.mod_lt _ (by decide), h.2.2.2.2.1, h.2.2.2.2.2.1, h.2.2.2.2.2.2.1⟩
theorem rnds_ok {s : S8} (ws : List Nat) (h : s.ok) : ∀ i, (rnds ws s i).ok
  | 0 => h
  | i + 1 => rnd_ok (rnds_ok ws h i)
theorem addS_ok (s t : S8) : (addS s t).ok := by
  unfold addS S8.ok
  refine ⟨?_, ?_, ?_, ?_, ?_, ?_, ?_, ?_⟩ <;> exact Nat.mod_lt _ (by decide)
theorem shaKs_lt : ∀ j, shaKs.getD j 0 < 4294967296 := by
  intro j
  have h : ∀ x ∈ shaKs, x < 4294967296 := by decide
  rcases Nat.lt_or_ge j shaKs.length with hj | hj
  · rw [List.getD, List.getElem?_eq_getElem hj]
    exact h _ (List.getElem_mem hj)
  · rw [List.getD, List.getElem?_eq_none hj]
    decide
theorem store8 {w : World} {p : Nat} {t : TypeId} {a b c d e f g h : Value} (hb : Blk w p t [a, b, c, d, e, f, g, h]) (v0 v1 v2 v3 v4 v5 v6 v7 : Value) :
    Blk ((((((((w.setCell ⟨p, 0, none⟩ v0).setCell ⟨p, 1, none⟩ v1).setCell ⟨p, 2, none⟩ v2).setCell ⟨p, 3, none⟩ v3).setCell ⟨p, 4, none⟩ v4).setCell ⟨p, 5, none⟩ v5).setCell ⟨p, 6, none⟩ v6).setCell ⟨p, 7, none⟩ v7) p t [v0, v1, v2, v3, v4, v5, v6, v7] ∧
    RBut (some p) w ((((((((w.setCell ⟨p, 0, none⟩ v0).setCell ⟨p, 1, none⟩ v1).setCell ⟨p, 2, none⟩ v2).setCell ⟨p, 3, none⟩ v3).setCell ⟨p, 4, none⟩ v4).setCell ⟨p, 5, none⟩ v5).setCell ⟨p, 6, none⟩ v6).setCell ⟨p, 7, none⟩ v7) :=
  ⟨(((((((hb.set_ 0 v0).set_ 1 v1).set_ 2 v2).set_ 3 v3).set_ 4 v4).set_ 5 v5).set_ 6 v6).set_ 7 v7,
    RBut.trans_ _ _ _ _ (RBut.trans_ _ _ _ _ (RBut.trans_ _ _ _ _ (RBut.trans_ _ _ _ _ (RBut.trans_ _ _ _ _ (RBut.trans_ _ _ _ _ (RBut.trans_ _ _ _ _ (RBut.setC _ _ _ _) (RBut.setC _ _ _ _)) (RBut.setC _ _ _ _)) (RBut.setC _ _ _ _)) (RBut.setC _ _ _ _)) (RBut.setC _ _ _ _)) (RBut.setC _ _ _ _)) (RBut.setC _ _ _ _)⟩
/-- the sums of the first j words, then the words as they are -/
def mix (t s : S8) (j : Nat) : List Nat := (addS t s).list.take j ++ t.list.drop j
theorem mix_at (t s : S8) (j : Nat) (h : j < 8) : ∃ x y, (mix t s j)[j]? = some x ∧ s.list[j]? = some y ∧ (V32 (mix t s j)).set j (.int .u32 (((x + y) % 4294967296 : Nat) : Int)) = V32 (mix t s (j + 1)) := by
  match j, h with
  | 0, _ => exact ⟨_, _, rfl, rfl, rfl⟩
  | 1, _ => exact ⟨_, _, rfl, rfl, rfl⟩
  | 2, _ => exact ⟨_, _, rfl, rfl, rfl⟩
  | 3, _ => exact ⟨_, _, rfl, rfl, rfl⟩
  | 4, _ => exact ⟨_, _, rfl, rfl, rfl⟩
  | 5, _ => exact ⟨_, _, rfl, rfl, rfl⟩
  | 6, _ => exact ⟨_, _, rfl, rfl, rfl⟩
  | 7, _ => exact ⟨_, _, rfl, rfl, rfl⟩
end Go.Proofs.Ytakebmpnbdlcoaa
