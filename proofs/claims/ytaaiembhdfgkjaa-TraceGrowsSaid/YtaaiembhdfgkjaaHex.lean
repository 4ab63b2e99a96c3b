/- Walks: sha.Hex, capstanref2.Hex. -/
import Derived.Test.YtaaiembhdfgkjaaEqH
import Derived.Test.YtaaiembhdfgkjaaCat
import Derived.Test.YtaaiembhdfgkjaaShaSpec
import Derived.Deep.Cut
namespace Go.Proofs.Ytaaiembhdfgkjaa
open Go.RowKit
theorem run_index_b {P : Program} {t e : TypeId} {n : Nat} {i0 : TypeInfo} (ht : P.underlying t = some (.array n e)) (he : P.underlying e = some (.int .u8)) (hi : P.info? e = some i0) (hs : i0.size = 1) (l : List UInt8) (k : Nat) (hk : k < n) (y : UInt8) (hy : l[k]? = some y) (w : World) :
    (Instr.index t (.agg (B8 l).toArray) (.int .i64 (k : Int))).run P w = .ok (.int .u8 (y.toNat : Int)) w := by
  have hp : P.plainKey e = true := by unfold Program.plainKey; rw [he]
  have pa := run_part_plain (P := P) w hp (xs := (B8 l).toArray) (off := k) (v := .int .u8 (y.toNat : Int)) (by simp [B8, b8, hy])
  have hlt : (0 : Int) ≤ (k : Int) ∧ (k : Int) < (n : Int) := by omega
  simp [Instr.index, run_underlying ht, asIntOf, sizeOf, typeInfo, hi, hs, hk, pa]
theorem dig_at (d : Nat) (h : d < 16) : ((⟨#[48, 49, 50, 51, 52, 53, 54, 55, 56, 57, 97, 98, 99, 100, 101, 102]⟩ : ByteArray)[d]'h) = dig d := by
  match d, h with
  | 0, _ => rfl
  | 1, _ => rfl
  | 2, _ => rfl
  | 3, _ => rfl
  | 4, _ => rfl
  | 5, _ => rfl
  | 6, _ => rfl
  | 7, _ => rfl
  | 8, _ => rfl
  | 9, _ => rfl
  | 10, _ => rfl
  | 11, _ => rfl
  | 12, _ => rfl
  | 13, _ => rfl
  | 14, _ => rfl
  | 15, _ => rfl
  | n + 16, h => exact absurd h (by omega)
theorem digit_at {P : Program} {t : TypeId} (ht : P.underlying t = some .string) (d : Nat) (h : d < 16) (w : World) :
    (Instr.index t (.string ⟨#[48, 49, 50, 51, 52, 53, 54, 55, 56, 57, 97, 98, 99, 100, 101, 102]⟩) (.int .u8 (d : Int))).run P w = .ok (.int .u8 ((dig d).toNat : Int)) w := by
  rw [run_index_string w t _ .u8 (d : Int) ht, dif_pos ⟨by omega, by show (d : Int) < 16; omega⟩]
  simp only [Int.toNat_natCast]
  rw [dig_at d h]
theorem hexS_snoc (h : List UInt8) (k : Nat) (y : UInt8) (hy : h[k]? = some y) : hexS (h.take (k + 1)) = hexS (h.take k) ++ [dig (y.toNat / 16), dig (y.toNat % 16)] := by
  rw [List.take_add_one, hy, hexS, List.flatMap_append]
  rfl
set_option maxRecDepth 100000 in
set_option maxHeartbeats 1000000 in
theorem hex_any (h : List UInt8) (hh : h.length = 32) (w : World) :
    Calls Try.prog 19 #[hv h] w fun e w' => e = .returned (.string (str (hexS h))) ∧ Below w.heap.size w w' := by
  unfold hv
  have b1 : Blk (w.alloc (.cells (B8 h).toArray 26)) w.heap.size 26 (B8 h) := Blk.new w _ _
  have hb1 : Below w.heap.size w (w.alloc (.cells (B8 h).toArray 26)) := (Below.refl _ _).alloc (Nat.le_refl _) _
  have ez := eq_zero h hh
  by_cases hz : h = zero32
  · have hx : hexS h = List.replicate 64 48 := by rw [hz]; decide
    rw [show decide (h = zero32) = true from by simpa using hz] at ez
    have HX := Lib.hid hx
    have HH := Lib.hid hh
    clear hz hx hh
    go_enter Try.func19, Try.ntmps19
    go_upto_region 1 with fail
    generalize w.alloc (.cells (B8 h).toArray 26) = W at *
    generalize hN : w.heap.size = N at *
    have HN := Lib.hid hN
    clear hN
    obtain ⟨i0, hi0, hz0, hz1, hz2⟩ := info_parts info_u8
    have HI := Lib.hid (And.intro hi0 (And.intro hz0 (And.intro hz1 hz2)))
    clear hi0 hz0 hz1 hz2
    go_upto_region 2 with (first
      | (refine wpList_make_own _ rfl _ _ 24 rfl W.heap.size 5 i0 (.int .u8 0) 1 Try.underlying24 HI.out.1 HI.out.2.1 HI.out.2.2.1 .i64 .i64 _ 64 rfl rfl rfl (by rw [HI.out.2.2.2]; omega) (by decide) (Nat.le_refl _) ?_
         intro W2 o2 g2))
    have o2' : Own W2 W.heap.size 5 1 (some ⟨W.heap.size, 0, none⟩) 0 64 (B8 (List.replicate 0 48)) := o2
    have hb2 : Below W.heap.size W W2 := (Below.refl _ _).grown g2 (Nat.le_refl _) (by simp)
    have b2 := b1.to hb2
    clear o2 g2
    go_wp2_with (first
      | (refine wpl_load_blk rfl _ _ rfl N rfl 26 (B8 h) _ b2 Try.underlying26 rfl (info_hash HH.out) ?_))
    clear ez
    go_loopw [3, 10] (fun s v wr => ∃ (A : Option Addr) (c k : Nat), k ≤ 64 ∧ v = .int .i64 k ∧ s = .slice A k c ∧ Own wr W.heap.size 5 1 A k c (B8 (List.replicate k 48)) ∧ Below W.heap.size W wr) (fun _ v _ => 64 - (intOf v).toNat)
    case atStart => exact ⟨_, _, 0, by omega, rfl, rfl, o2', hb2⟩
    case round =>
      clear o2' hb2 b2
      obtain ⟨A, c, k, hk, rfl, rfl, ho, hb⟩ := hrel
      have hsz := hb.size
      by_cases hlt : k < 64
      · have t1 : (k : Int) < 64 := by omega
        go_wp2_with (first
          | (at_builtin
             refine wpl_push8 _ _ _ elB rfl rfl rfl ho rfl 48 rfl (by omega) hsz ?_
             intro A3 c3 w3 ho3 hb3 _ _))
        rw [show List.replicate k (48 : UInt8) ++ [48] = List.replicate (k + 1) 48 from by rw [List.replicate_succ']] at ho3
        go_roundw
        case rel => exact ⟨A3, c3, k + 1, by omega, by go_num, rfl, ho3, hb.trans hb3⟩
        case measure => simp [intOf]; omega
      · have t1 : ¬ (k : Int) < 64 := by omega
        obtain rfl : k = 64 := by omega
        have cv := conv_str (P := Try.prog) Try.underlying24 Try.underlying5 Try.underlying9 (c := c) ho.sl
        go_wp2_with fail
        go_ret
        rw [HX.out]
        exact ⟨rfl, by rw [HN.out]; exact hb1.trans (hb.mono (by have := b1.lt; omega))⟩
  · rw [show decide (h = zero32) = false from by simpa using hz] at ez
    have HH := Lib.hid hh
    clear hz hh
    go_enter Try.func19, Try.ntmps19
    go_upto_region 1 with fail
    generalize w.alloc (.cells (B8 h).toArray 26) = W at *
    generalize hN : w.heap.size = N at *
    have HN := Lib.hid hN
    clear hN
    obtain ⟨i0, hi0, hz0, hz1, hz2⟩ := info_parts info_u8
    have HI := Lib.hid (And.intro hi0 (And.intro hz0 (And.intro hz1 hz2)))
    clear hi0 hz0 hz1 hz2
    go_upto_region 2 with (first
      | (refine wpList_make_own _ rfl _ _ 24 rfl W.heap.size 5 i0 (.int .u8 0) 1 Try.underlying24 HI.out.1 HI.out.2.1 HI.out.2.2.1 .i64 .i64 _ 64 rfl rfl rfl (by rw [HI.out.2.2.2]; omega) (by decide) (Nat.le_refl _) ?_
         intro W2 o2 g2))
    have o2' : Own W2 W.heap.size 5 1 (some ⟨W.heap.size, 0, none⟩) 0 64 (B8 (hexS (h.take 0))) := o2
    have hb2 : Below W.heap.size W W2 := (Below.refl _ _).grown g2 (Nat.le_refl _) (by simp)
    have b2 := b1.to hb2
    clear o2 g2
    go_wp2_with (first
      | (refine wpl_load_blk rfl _ _ rfl N rfl 26 (B8 h) _ b2 Try.underlying26 rfl (info_hash HH.out) ?_))
    clear ez
    go_loopw [3, 19] (fun s v wr => ∃ (A : Option Addr) (c k : Nat), k ≤ 32 ∧ v = .int .i64 k ∧ s = .slice A (2 * k) c ∧ Own wr W.heap.size 5 1 A (2 * k) c (B8 (hexS (h.take k))) ∧ Below W.heap.size W wr) (fun _ v _ => 32 - (intOf v).toNat)
    case atStart => exact ⟨_, _, 0, by omega, rfl, rfl, o2', hb2⟩
    case round =>
      clear o2' hb2 b2
      obtain ⟨A, c, k, hk, rfl, rfl, ho, hb⟩ := hrel
      have hsz := hb.size
      by_cases hlt : k < 32
      · have t1 : (k : Int) < 32 := by omega
        obtain ⟨y, hy⟩ : ∃ y, h[k]? = some y := ⟨_, List.getElem?_eq_getElem (by have := HH.out; omega)⟩
        have ix := run_index_b (P := Try.prog) Try.underlying26 Try.underlying5 HI.out.1 HI.out.2.2.1 h k hlt y hy
        have HY := Lib.hid hy
        clear hy
        go_wp2_with fail
        clear ix
        refine wp_region_C [(0, true), (1, true), (2, true), (3, true), (4, false), (5, false), (6, false), (7, false), (8, false), (9, false)] (RBut (A.map (·.block))) (by kernel_rfl) (by kernel_rfl) (by kernel_rfl) (by decide) (RBut.refl_ _) (RBut.trans_ _) (by intro d v c a w h; cases d <;> exact h) ?_
        obtain ⟨dq, hdq⟩ : ∃ d, d = y.toNat / 16 := ⟨_, rfl⟩
        obtain ⟨dr, hdr⟩ : ∃ d, d = y.toNat % 16 := ⟨_, rfl⟩
        have hyl := y.toNat_lt
        have q1 : IntKind.u8.wrap ((y.toNat : Int) / 16) = (dq : Int) := by rw [IntKind.wrap_u8']; omega
        have q2 : IntKind.u8.wrap ((y.toNat : Int) % 16) = (dr : Int) := by rw [IntKind.wrap_u8']; omega
        have q3 : (y.toNat : Int) % 16 = (dr : Int) := by omega
        have q4 : (y.toNat : Int).tmod 16 = (dr : Int) := by rw [Int.tmod_eq_emod_of_nonneg (by omega)]; omega
        have i1 := digit_at (P := Try.prog) Try.underlying9 dq (by omega)
        have i2 := digit_at (P := Try.prog) Try.underlying9 dr (by omega)
        have sn := hexS_snoc h k y HY.out
        rw [← hdq, ← hdr] at sn
        have SN := Lib.hid sn
        have ho' : Own wr.drew W.heap.size 5 1 A (2 * k) c (B8 (hexS (h.take k))) := ho
        have hb' : Below W.heap.size W wr.drew := hb.drew
        have hsz' : W.heap.size ≤ wr.drew.heap.size := hsz
        clear hdq hdr sn ho hb hsz
        generalize wr.drew = wd at *
        repeat (first | (refine wpC_quiet (v := ?_) rfl (by rfl) ?_ ?_; rotate_left; (· (intro w' hw'; go_simp; try with_reducible rfl)); simp only [Act.put, List.setIfInBounds_toArray, List.set_cons_zero, List.set_cons_succ]) | (refine wpC_val (v := ?_) (RBut.refl_ _) rfl (by rfl) ?_ ?_; rotate_left; (· (go_simp; try with_reducible rfl)); simp only [Act.put, List.setIfInBounds_toArray, List.set_cons_zero, List.set_cons_succ]) | (refine wpC_skip rfl (by rfl) ?_; simp only [Act.put, List.setIfInBounds_toArray, List.set_cons_zero, List.set_cons_succ]) | (refine wpC_skip' (RBut.refl_ _) rfl (by rfl) ?_; simp only [Act.put, List.setIfInBounds_toArray, List.set_cons_zero, List.set_cons_succ]))
        clear q1 q2 q3 q4 i1 i2
        (refine wpC_loud rfl (by rfl) ?_; intro K hK; go_simp)
        have hba : Below wd.heap.size wd (wd.alloc (.cells #[.int .u8 ((dig dq).toNat : Int), .int .u8 ((dig dr).toNat : Int)] 5)) := (Below.refl _ _).alloc (Nat.le_refl _) _
        (refine hK.out _ _ (RBut.of_below hba) ?_; clear hK K; try simp only [Act.put, List.setIfInBounds_toArray, List.set_cons_zero, List.set_cons_succ])
        refine wpC_loud rfl (by rfl) ?_
        intro K hK
        refine wp_app _ _ _ _ elB rfl rfl (ho'.alloc _) rfl (Sl.new (size := 1) wd #[.int .u8 ((dig dq).toNat : Int), .int .u8 ((dig dr).toNat : Int)] 5 (0, 0) 2 rfl) (by intro u hu; simp at hu; rcases hu with rfl | rfl <;> rfl) (by omega) (by omega) (by simp; omega) ?_
        intro A3 c3 w3 g3
        (refine hK.out _ _ (g3.grow) ?_; clear hK K; try simp only [Act.put, List.setIfInBounds_toArray, List.set_cons_zero, List.set_cons_succ])
        have o3 := g3.own
        have e3 : B8 (hexS (h.take k)) ++ #[Value.int .u8 ((dig dq).toNat : Int), .int .u8 ((dig dr).toNat : Int)].toList = B8 (hexS (h.take (k + 1))) := by rw [SN.out, B8_app]; rfl
        rw [e3] at o3
        have hb3 := hb'.trans ((hba.mono hsz').trans (g3.below (ho'.alloc _) (by simp; omega)))
        clear g3 e3 ho' hba hb'
        repeat (first | (refine wpC_quiet (v := ?_) rfl (by rfl) ?_ ?_; rotate_left; (· (intro w' hw'; go_simp; try with_reducible rfl)); simp only [Act.put, List.setIfInBounds_toArray, List.set_cons_zero, List.set_cons_succ]) | (refine wpC_val (v := ?_) (RBut.refl_ _) rfl (by rfl) ?_ ?_; rotate_left; (· (go_simp; try with_reducible rfl)); simp only [Act.put, List.setIfInBounds_toArray, List.set_cons_zero, List.set_cons_succ]) | (refine wpC_skip rfl (by rfl) ?_; simp only [Act.put, List.setIfInBounds_toArray, List.set_cons_zero, List.set_cons_succ]) | (refine wpC_skip' (RBut.refl_ _) rfl (by rfl) ?_; simp only [Act.put, List.setIfInBounds_toArray, List.set_cons_zero, List.set_cons_succ]))
        refine wpC_nil ?_
        go_wp2_with fail
        go_roundw
        case rel => exact ⟨A3, c3, k + 1, by omega, by go_num, by congr 1, by simpa [Nat.mul_add] using o3, hb3⟩
        case measure => simp [intOf]; omega
      · have t1 : ¬ (k : Int) < 32 := by omega
        obtain rfl : k = 32 := by omega
        have e1 : h.take 32 = h := List.take_of_length_le (Nat.le_of_eq HH.out)
        rw [e1] at ho
        clear e1
        have cv := conv_str (P := Try.prog) Try.underlying24 Try.underlying5 Try.underlying9 (c := c) ho.sl
        go_wp2_with fail
        go_ret
        exact ⟨rfl, by rw [HN.out]; exact hb1.trans (hb.mono (by have := b1.lt; omega))⟩
end Go.Proofs.Ytaaiembhdfgkjaa
