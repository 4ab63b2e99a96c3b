/- The walk of capstanlaw12.Hashes: some sums, unlike ones. -/
import Derived.Test.YtakebmpnbdlcoaaGameW
import Derived.Test.YtakebmpnbdlcoaaRefSum2
import Derived.IntWalk
set_option linter.unusedSimpArgs false
set_option linter.unusedVariables false
namespace Go.Proofs.Ytakebmpnbdlcoaa
open Go.RowKit
set_option maxRecDepth 100000
theorem fold_fill' (vs : List Value) : ∀ (k : Nat) (cs : Array Value), k + vs.length ≤ cs.size → (List.foldl (fun (cs : Array Value) (x : Value × Nat) => cs.setIfInBounds x.2 x.1) cs (vs.zipIdx k)).toList = cs.toList.take k ++ vs ++ cs.toList.drop (k + vs.length) := by
  induction vs with
  | nil => intro k cs h; simp
  | cons v vs ih =>
    intro k cs h
    simp only [List.zipIdx_cons, List.foldl_cons]
    rw [ih (k + 1) _ (by simp at h ⊢; omega)]
    have hk : k < cs.toList.length := by simp at h ⊢; omega
    simp only [Array.toList_setIfInBounds]
    rw [List.take_set, List.drop_set, if_pos (by omega)]
    rw [List.take_add_one, List.getElem?_eq_getElem hk]
    have e2 : (List.take k cs.toList).length = k := by rw [List.length_take]; omega
    rw [List.set_append_right _ _ (by rw [e2]; exact Nat.le_refl _), e2]
    simp only [Nat.sub_self, Option.toList_some, List.set_cons_zero, List.append_assoc, List.cons_append, List.nil_append, List.length_cons]
    rw [show k + 1 + vs.length = k + (vs.length + 1) from by omega]
theorem fold_sum' (sm : List UInt8) (h : sm.length = 32) : List.foldl (fun (cs : Array Value) (x : Value × Nat) => cs.setIfInBounds x.2 x.1) #[.int .u8 0, .int .u8 0, .int .u8 0, .int .u8 0, .int .u8 0, .int .u8 0, .int .u8 0, .int .u8 0, .int .u8 0, .int .u8 0, .int .u8 0, .int .u8 0, .int .u8 0, .int .u8 0, .int .u8 0, .int .u8 0, .int .u8 0, .int .u8 0, .int .u8 0, .int .u8 0, .int .u8 0, .int .u8 0, .int .u8 0, .int .u8 0, .int .u8 0, .int .u8 0, .int .u8 0, .int .u8 0, .int .u8 0, .int .u8 0, .int .u8 0, .int .u8 0] ((B8 sm).zipIdx) = (B8 sm).toArray := by
  apply Array.toList_inj.1
  rw [fold_fill' (B8 sm) 0 _ (by rw [B8_len, h]; decide), B8_len, h]
  simp
theorem H8_snoc (hs : List (List UInt8)) (h : List UInt8) : H8 (hs ++ [h]) = H8 hs ++ B8 h := by simp [H8]
/-- the sum of a number's two lowest bytes -/
def hashI (i : Nat) : List UInt8 := shaS [UInt8.ofNat (i % 256), UInt8.ofNat (i / 256 % 256)]
def hashL (n : Nat) : List (List UInt8) := (List.range n).map hashI
theorem hashI_len (i : Nat) : (hashI i).length = 32 := shaS_len _
theorem hashL_len (n : Nat) : (hashL n).length = n := by simp [hashL]
theorem hashL_snoc (n : Nat) : hashL (n + 1) = hashL n ++ [hashI n] := by simp [hashL, List.range_succ]
theorem H8_len (hs : List (List UInt8)) (h : ∀ x ∈ hs, x.length = 32) : (H8 hs).length = 32 * hs.length := by
  induction hs with
  | nil => rfl
  | cons a hs ih =>
    have := ih (fun x hx => h x (by simp [hx]))
    have h1 := h a (by simp)
    simp only [H8, List.flatMap_cons, List.length_append, B8_len, List.length_cons] at this ⊢
    omega
theorem hashL_all (n : Nat) : ∀ x ∈ hashL n, x.length = 32 := by
  intro x hx
  obtain ⟨i, _, rfl⟩ := List.mem_map.1 hx
  exact hashI_len i
set_option maxRecDepth 100000 in
set_option maxHeartbeats 1000000 in
theorem hashes_any (n : Nat) (w : World) (hn : n ≤ 4194304) :
    Calls Try.prog 39 #[.int .i64 (n : Int)] w fun e w' => ∃ A c, e = .returned (.slice A n c) ∧ Own w' w.heap.size 27 32 A n c (H8 (hashL n)) ∧ Below w.heap.size w w' := by
  go_enter Try.func39, Try.ntmps39
  go_wp2_with fail
  go_loopw [3, 4] (fun l i wr => ∃ (k : Nat) (A : Option Addr) (c : Nat), i = .int .i64 k ∧ k ≤ n ∧ l = .slice A k c ∧ Own wr w.heap.size 27 32 A k c (H8 (hashL k)) ∧ Below w.heap.size w wr) (fun _ i _ => n - (intOf i).toNat)
  case atStart => exact ⟨0, none, 0, rfl, Nat.zero_le _, rfl, Own.nil_, Below.refl _ _⟩
  case round =>
    obtain ⟨k, A, c, rfl, hk, rfl, ho, hb⟩ := hrel
    by_cases hlt : k < n
    · go_wp2_with fail
      have hb8 : [Value.int .u8 ((k : Int) % 256), Value.int .u8 ((k : Int) / 256 % 256)] = B8 [UInt8.ofNat (k % 256), UInt8.ofNat (k / 256 % 256)] := by
        simp [B8, b8]
      have sB : Sl (wr.alloc (.cells #[.int .u8 ((k : Int) % 256), .int .u8 ((k : Int) / 256 % 256)] 5)) 1 (some ⟨wr.heap.size, 0, none⟩) 2 (B8 [UInt8.ofNat (k % 256), UInt8.ofNat (k / 256 % 256)]) := by
        rw [← hb8]
        exact Sl.new wr #[.int .u8 ((k : Int) % 256), .int .u8 ((k : Int) / 256 % 256)] _ _ 2 rfl
      clear hb8
      have ho1 := ho.alloc (.cells #[.int .u8 ((k : Int) % 256), .int .u8 ((k : Int) / 256 % 256)] 5)
      have hb1 : Below w.heap.size w (wr.alloc (.cells #[.int .u8 ((k : Int) % 256), .int .u8 ((k : Int) / 256 % 256)] 5)) := hb.alloc hb.size _
      refine (refSum_any (some ⟨wr.heap.size, 0, none⟩) 2 2 _ _ sB (by omega)).mono ?_
      rintro e w2 ⟨rfl, hb2⟩
      have ho2 := ho1.to hb2
      have hf2 := hb1.trans (hb2.mono hb1.size)
      have hH : shaS [UInt8.ofNat (k % 256), UInt8.ofNat (k / 256 % 256)] = hashI k := rfl
      rw [hH]
      clear sB ho1 hb1 hb2 hH ho hb
      have HL := Lib.hid (hashI_len k)
      unfold hv
      have hs := hf2.size
      have hbl : (B8 (hashI k)).length = 32 := by rw [B8_len, HL.out]
      go_wp2_with (first
        | (at_builtin
           rw [fold_sum' (hashI k) HL.out]
           refine wpl_push _ _ _ elH rfl rfl rfl ho2 rfl (by rw [List.size_toArray, B8_len, HL.out]) (by intro u hu; exact B8_one _ u (by simpa using hu)) (by omega) (by omega) hs ?_
           intro A3 c3 w3 g3 h3 _))
      have o3 : Own w3 w.heap.size 27 32 A3 (k + 1) c3 (H8 (hashL (k + 1))) := by
        have := g3.own
        rw [hashL_snoc, H8_snoc]
        exact this
      have f3 := hf2.trans h3
      clear g3 h3 ho2 hf2 hs hbl
      go_wp2_with fail
      go_roundw
      case rel => exact ⟨k + 1, A3, c3, by go_num, by omega, rfl, o3, f3⟩
      case measure => simp [intOf]; omega
    · obtain rfl : n = k := by omega
      go_wp2_with fail
      go_ret
      exact ⟨A, c, rfl, ho, hb⟩
end Go.Proofs.Ytakebmpnbdlcoaa
