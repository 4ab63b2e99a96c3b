/- The walk of capstanref2.Hex. -/
import Derived.Test.YtaaiembhdfgkjaaTwo
namespace Go.Proofs.Ytaaiembhdfgkjaa
open Go.RowKit
theorem dig_cut (d : Nat) (h : d < 16) : (⟨#[48, 49, 50, 51, 52, 53, 54, 55, 56, 57, 97, 98, 99, 100, 101, 102]⟩ : ByteArray).extract d (d + 1) = str [dig d] := by
  match d, h with
  | 0, _ => rfl
  | 1, _ => rfl
  | 2, _ => rfl
  | 3, _ => rfl
  | 4, _ => rfl
  | 5, _ => rfl
  | 6, _ => rfl
  | 7, _ => rfl
  | 8, _ => rfl
  | 9, _ => rfl
  | 10, _ => rfl
  | 11, _ => rfl
  | 12, _ => rfl
  | 13, _ => rfl
  | 14, _ => rfl
  | 15, _ => rfl
  | n + 16, h => exact absurd h (by omega)
theorem str_app (a b : List UInt8) : str a ++ str b = str (a ++ b) := by
  apply ByteArray.ext
  simp [str]
theorem run_str_add {P : Program} (a b : List UInt8) (h : a.length + b.length ≤ 9223372036854775807) (w : World) : (Op.stringOp .add (str a) (str b)).run P w = .ok (.string (str (a ++ b))) w := by
  have e : ∀ l : List UInt8, (str l).size = l.length := fun l => by show l.toArray.size = _; simp
  rw [run_string_add_sum w _ _ (by rw [e, e]; exact h), str_app]
set_option maxRecDepth 100000 in
set_option maxHeartbeats 1000000 in
theorem refHex_any (h : List UInt8) (hh : h.length = 32) (w : World) :
    Calls Try.prog 22 #[hv h] w fun e w' => e = .returned (.string (str (hexS h))) ∧ Below w.heap.size w w' := by
  unfold hv
  have b1 : Blk (w.alloc (.cells (B8 h).toArray 26)) w.heap.size 26 (B8 h) := Blk.new w _ _
  have hb1 : Below w.heap.size w (w.alloc (.cells (B8 h).toArray 26)) := (Below.refl _ _).alloc (Nat.le_refl _) _
  have HH := Lib.hid hh
  clear hh
  go_enter Try.func22, Try.ntmps22
  go_upto_region 1 with fail
  generalize w.alloc (.cells (B8 h).toArray 26) = W at *
  generalize hN : w.heap.size = N at *
  have HN := Lib.hid hN
  clear hN
  go_wp2_with fail
  go_loopw [4, 5] (fun s v wr => ∃ k : Nat, k ≤ 32 ∧ v = .int .i64 k ∧ s = .string (str (hexS (h.take k))) ∧ Below W.heap.size W wr) (fun _ v _ => 32 - (intOf v).toNat)
  case atStart => exact ⟨0, by omega, rfl, rfl, Below.refl _ _⟩
  case round =>
    obtain ⟨k, hk, rfl, rfl, hb⟩ := hrel
    by_cases hlt : k < 32
    · have t1 : (k : Int) < 32 := by omega
      obtain ⟨y, hy⟩ : ∃ y, h[k]? = some y := ⟨_, List.getElem?_eq_getElem (by have := HH.out; omega)⟩
      have hv8 : (B8 h)[k]? = some (.int .u8 (y.toNat : Int)) := by simp [B8, b8, hy]
      have bk := b1.to hb
      have cy : ∀ w', RBel wr.drew w' → w'.cell? ⟨N, k, none⟩ = some (.int .u8 (y.toNat : Int)) := fun w' hw' => by rw [(Blk.to (w := wr.drew) bk hw').cell, hv8]
      obtain ⟨dq, hdq⟩ : ∃ d, d = y.toNat / 16 := ⟨_, rfl⟩
      obtain ⟨dr, hdr⟩ : ∃ d, d = y.toNat % 16 := ⟨_, rfl⟩
      have hyl := y.toNat_lt
      have q1 : IntKind.u8.wrap ((y.toNat : Int) / 16) = (dq : Int) := by rw [IntKind.wrap_u8']; omega
      have q4 : (y.toNat : Int).tmod 16 = (dr : Int) := by rw [Int.tmod_eq_emod_of_nonneg (by omega)]; omega
      have sn := hexS_snoc h k y hy
      rw [← hdq, ← hdr] at sn
      have SN := Lib.hid sn
      have k1 : dq < 16 := by omega
      have k2 : dr < 16 := by omega
      have hb' : Below W.heap.size W wr.drew := hb.drew
      clear hdq hdr sn hv8 hy bk hb
      go_wp2_with fail
      refine wp_region_C [(0, true), (1, true), (2, true), (3, true), (4, true), (5, true), (6, true), (7, true), (8, false), (9, false)] RBel (by kernel_rfl) (by kernel_rfl) (by kernel_rfl) (by decide) RBel.refl_ RBel.trans_ (by intro d v c a w h; cases d <;> exact h) ?_
      generalize wr.drew = wd at *
      repeat (first | (refine wpC_quiet (v := ?_) rfl (by rfl) ?_ ?_; rotate_left; (· (intro w' hw'; go_simp; try with_reducible rfl)); simp only [Act.put, List.setIfInBounds_toArray, List.set_cons_zero, List.set_cons_succ]) | (refine wpC_val (v := ?_) (RBel.refl_) rfl (by rfl) ?_ ?_; rotate_left; (· (go_simp; try with_reducible rfl)); simp only [Act.put, List.setIfInBounds_toArray, List.set_cons_zero, List.set_cons_succ]) | (refine wpC_skip rfl (by rfl) ?_; simp only [Act.put, List.setIfInBounds_toArray, List.set_cons_zero, List.set_cons_succ]) | (refine wpC_skip' (RBel.refl_) rfl (by rfl) ?_; simp only [Act.put, List.setIfInBounds_toArray, List.set_cons_zero, List.set_cons_succ]))
      refine wpC_nil ?_
      clear cy q1 q4
      go_wp2_with fail
      refine wp_region_C [(0, true), (1, true), (2, true), (3, true), (4, true), (5, true), (6, true), (7, true), (8, true), (9, false), (10, false), (11, false), (12, false), (13, false)] RBel (by kernel_rfl) (by kernel_rfl) (by kernel_rfl) (by decide) RBel.refl_ RBel.trans_ (by intro d v c a w h; cases d <;> exact h) ?_
      have hb2 : Below W.heap.size W wd.drew := hb'.drew
      clear hb'
      generalize wd.drew = we at *
      have a1 : IntKind.u8.wrap ((dq : Int) + 1) = ((dq + 1 : Nat) : Int) := by rw [IntKind.wrap_u8']; omega
      have a2 : IntKind.u8.wrap ((dr : Int) + 1) = ((dr + 1 : Nat) : Int) := by rw [IntKind.wrap_u8']; omega
      have z1 := dig_cut dq k1
      have z2 := dig_cut dr k2
      obtain ⟨e1, he1⟩ : ∃ e, e = dq + 1 := ⟨_, rfl⟩
      obtain ⟨e2, he2⟩ : ∃ e, e = dr + 1 := ⟨_, rfl⟩
      rw [← he1] at a1 z1
      rw [← he2] at a2 z2
      have m1 : (dq : Int) ≤ (e1 : Int) := by omega
      have m2 : (dr : Int) ≤ (e2 : Int) := by omega
      have m3 : (e1 : Int) ≤ 16 := by omega
      have m4 : (e2 : Int) ≤ 16 := by omega
      obtain ⟨X, hX⟩ : ∃ X, X = hexS (h.take k) := ⟨_, rfl⟩
      have hXl : X.length ≤ 64 := by rw [hX, hexS_len, List.length_take, HH.out]; omega
      rw [← hX] at SN ⊢
      have r1 := run_str_add (P := Try.prog) X [dig dq] (by simp; omega)
      have r2 := run_str_add (P := Try.prog) (X ++ [dig dq]) [dig dr] (by simp; omega)
      clear he1 he2 hX
      repeat (first | (refine wpC_quiet (v := ?_) rfl (by rfl) ?_ ?_; rotate_left; (· (intro w' hw'; go_simp; try with_reducible rfl)); simp only [Act.put, List.setIfInBounds_toArray, List.set_cons_zero, List.set_cons_succ]) | (refine wpC_val (v := ?_) (RBel.refl_) rfl (by rfl) ?_ ?_; rotate_left; (· (go_simp; try with_reducible rfl)); simp only [Act.put, List.setIfInBounds_toArray, List.set_cons_zero, List.set_cons_succ]) | (refine wpC_skip rfl (by rfl) ?_; simp only [Act.put, List.setIfInBounds_toArray, List.set_cons_zero, List.set_cons_succ]) | (refine wpC_skip' (RBel.refl_) rfl (by rfl) ?_; simp only [Act.put, List.setIfInBounds_toArray, List.set_cons_zero, List.set_cons_succ]))
      refine wpC_nil ?_
      clear z1 z2 a1 a2 r1 r2
      go_wp2_with fail
      go_roundw
      case rel => exact ⟨k + 1, by omega, by go_num, by rw [SN.out], hb2⟩
      case measure => simp [intOf]; omega
    · have t1 : ¬ (k : Int) < 32 := by omega
      obtain rfl : k = 32 := by omega
      have e1 : h.take 32 = h := List.take_of_length_le (Nat.le_of_eq HH.out)
      rw [e1]
      clear e1
      go_wp2_with fail
      go_ret
      exact ⟨rfl, by rw [HN.out]; exact hb1.trans (hb.mono (by have := b1.lt; omega))⟩
end Go.Proofs.Ytaaiembhdfgkjaa
