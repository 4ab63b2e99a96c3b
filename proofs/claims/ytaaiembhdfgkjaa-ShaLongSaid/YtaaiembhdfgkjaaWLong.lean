/- The walk of capstanlaw2.ShaLong. -/
import Derived.Test.YtaaiembhdfgkjaaWTwo
namespace Go.Proofs.Ytaaiembhdfgkjaa
open Go.RowKit
theorem Own.set8 {w : World} {B c n g : Nat} {e : TypeId} {l : List UInt8} (h : Own w B e 1 (some ⟨g, 0, none⟩) n c (B8 l)) (i : Nat) (y : UInt8) : Own (w.setCell ⟨g, i, none⟩ (.int .u8 (y.toNat : Int))) B e 1 (some ⟨g, 0, none⟩) n c (B8 (l.set i y)) := by
  refine ⟨by have := h.1; simpa [B8] using this, ?_⟩
  rcases h.2 with ⟨hv, _⟩ | ⟨g', cap, cur, hv, hB, hg, h1, h2, h3, h4⟩
  · cases hv
  · injection hv with hA hn hc
    injection hA with hA
    injection hA with hA
    subst hA
    refine .inr ⟨g, cap, cur.setIfInBounds i (.int .u8 (y.toNat : Int)), by rw [hc], hB, ?_, h1, h2, by simpa using h3, ?_⟩
    · simp [World.setCell, Array.getElem?_modify, hg]
    · rw [Array.toList_setIfInBounds, List.take_set, h4, B8, B8, List.map_set]
      rfl
theorem Own.cell8 {w : World} {B c n g : Nat} {e : TypeId} {l : List UInt8} (h : Own w B e 1 (some ⟨g, 0, none⟩) n c (B8 l)) (i : Nat) (hi : i < n) : ∃ y : UInt8, w.cell? ⟨g, i, none⟩ = some (.int .u8 (y.toNat : Int)) ∧ w.frozen? ⟨g, i, none⟩ = false := by
  have hl := h.len8
  obtain ⟨b, hA, _, _, hc⟩ := h.at8 (by omega)
  injection hA with hA
  injection hA with hA
  subst hA
  refine ⟨l[i], hc i _ (List.getElem?_eq_getElem (by omega)), ?_⟩
  rcases h.2 with ⟨hv, _⟩ | ⟨g', cap, cur, hv, hB, hg, _⟩
  · cases hv
  · injection hv with hA hn hc
    injection hA with hA
    injection hA with hA
    subst hA
    simp [World.frozen?, hg]
theorem Own.set8_below {w : World} {B c n g : Nat} {e : TypeId} {l : List UInt8} (h : Own w B e 1 (some ⟨g, 0, none⟩) n c (B8 l)) (hn : 0 < n) (i : Nat) (v : Value) (hB : B ≤ w.heap.size) : Below B w (w.setCell ⟨g, i, none⟩ v) := by
  have := (h.lt g rfl).1
  exact below_but (RBut.setC w g i v) this hB
theorem made8 (n : Nat) : (madeCells (Value.int .u8 0).cells (n * 1)).toList = B8 (List.replicate n 0) := by
  apply List.ext_getElem
  · simp [madeCells, B8]
  · intro i h1 h2
    simp [madeCells, B8, b8, Value.cells, Nat.mod_one]
set_option maxHeartbeats 2000000 in
theorem shaLong_walk (w : World) (n : Int) (n_lo : -9223372036854775808 ≤ n) (n_hi : n < 9223372036854775808) (y : UInt8) (at_ : Int) (at_lo : -9223372036854775808 ≤ at_) (at_hi : at_ < 9223372036854775808) (t : UInt8) :
    Calls Try.prog 3 #[.int .i64 n, .int .u8 (y.toNat : Int), .int .i64 at_, .int .u8 (t.toNat : Int)] w (RB true w) := by
  obtain ⟨m, hm⟩ : ∃ m : Nat, n % 300 = (m : Int) := ⟨(n % 300).toNat, by omega⟩
  have hm300 : m < 300 := by omega
  have HM := Lib.hid hm
  clear hm
  go_enter Try.func3, Try.ntmps3
  go_wp2_with fail
  refine (shaKnown_any w).mono ?_
  rintro e w1 ⟨rfl, h1⟩
  go_wp2_with fail
  refine (within_capstanlaw2 n 300 w1 (by omega) (by omega) n_lo n_hi).mono ?_
  rintro e w' ⟨rfl, rfl⟩
  rw [HM.out]
  obtain ⟨i0, hi0, hz0, hz1, hz2⟩ := info_parts info_u8
  have HI := Lib.hid (And.intro hi0 (And.intro hz0 (And.intro hz1 hz2)))
  clear hi0 hz0 hz1 hz2
  go_wp2_with (first
    | (refine wpList_make_full _ rfl _ _ 24 rfl w1.heap.size 5 i0 (.int .u8 0) 1 Try.underlying24 HI.out.1 HI.out.2.1 HI.out.2.2.1 .i64 .i64 _ _ m rfl rfl rfl rfl (by rw [HI.out.2.2.2]; omega) (by simp only [maxLen]; omega) (Nat.le_refl _) ?_
       intro w2 o2 g2))
  have o3 : Own w2 w1.heap.size 5 1 (some ⟨w1.heap.size, 0, none⟩) m m (B8 (List.replicate m 0)) := by
    rw [← made8]
    exact o2
  have h2 : Below w1.heap.size w1 w2 := (Below.refl _ _).grown g2 (Nat.le_refl _) (by simp)
  clear o2 g2
  generalize hg : w1.heap.size = g at *
  have HG := Lib.hid hg
  clear hg
  have hgs : g ≤ w2.heap.size := Nat.le_trans (Nat.le_of_eq HG.out.symm) h2.size
  go_loopw [10] (fun v wr => ∃ (i : Nat) (l : List UInt8), i ≤ m ∧ v = .int .i64 i ∧ Own wr g 5 1 (some ⟨g, 0, none⟩) m m (B8 l) ∧ Below g w1 wr ∧ g ≤ wr.heap.size) (fun v _ => m - (intOf v).toNat)
  case atStart => exact ⟨0, _, Nat.zero_le _, rfl, o3, h2, hgs⟩
  case round =>
    clear o3 h2 hgs
    obtain ⟨i, l, hi, rfl, ho, hb, hgs⟩ := hrel
    by_cases hlt : i < m
    · have t1 : (i : Int) < (m : Int) := by omega
      obtain ⟨x, cx, fx⟩ := ho.cell8 i hlt
      obtain ⟨z, hz⟩ : ∃ z : UInt8, ((y.toNat : Int) + (i : Int) % 256) % 256 = (z.toNat : Int) := ⟨UInt8.ofNat (y.toNat + i % 256), by rw [UInt8.toNat_ofNat']; omega⟩
      have os := ho.set8 i z
      have hbs := hb.trans (ho.set8_below (by omega) i (.int .u8 (z.toNat : Int)) hgs)
      have OS := Lib.hid os
      have HBS := Lib.hid hbs
      clear os hbs
      go_wp2_with fail
      go_roundw
      case rel => exact ⟨i + 1, _, by omega, by go_num, OS.out, HBS.out, Nat.le_trans hgs (by simp [World.setCell])⟩
      case measure => simp [intOf]; omega
    · have t1 : ¬ (i : Int) < (m : Int) := by omega
      have fin : Below w.heap.size w wr := h1.trans (hb.mono (by have := HG.out; have := h1.size; omega))
      go_wp2_with fail
      refine (sum_any _ m m l wr ho.sl (by omega)).mono ?_
      rintro e w3 ⟨rfl, h3⟩
      unfold hv
      have f3 := fin.trans (h3.mono fin.size)
      have o3 := ho.to h3
      go_wp2_with fail
      refine (refSum_any _ m m l w3 o3.sl (by omega)).mono ?_
      rintro e w4 ⟨rfl, h4⟩
      unfold hv
      have f4 := f3.trans (h4.mono f3.size)
      have o4 := o3.to h4
      have eq1 := eq_self (shaS l) (shaS_len l)
      by_cases hm0 : 0 < m
      · have t2 : (0 : Int) < (m : Int) := by omega
        go_wp2_with fail
        clear eq1
        obtain ⟨j, hj⟩ : ∃ j : Nat, at_ % (m : Int) = (j : Int) := ⟨(at_ % (m : Int)).toNat, by have := Int.emod_nonneg at_ (show (m : Int) ≠ 0 by omega); omega⟩
        have hjm : j < m := by have := Int.emod_lt_of_pos at_ t2; omega
        have t3 : (j : Int) < (m : Int) := by omega
        have HJ := Lib.hid hj
        clear hj
        refine (within_capstanlaw2 at_ m w4 (by omega) (by omega) at_lo at_hi).mono ?_
        rintro e w' ⟨rfl, rfl⟩
        rw [HJ.out]
        obtain ⟨x, cx, fx⟩ := o4.cell8 j hjm
        have os := fun z : UInt8 => o4.set8 j z
        have OS := Lib.hid os
        clear os
        obtain ⟨z, hz⟩ : ∃ z : UInt8, ((x.toNat : Int) + (t.toNat : Int)) % 256 = (z.toNat : Int) := ⟨UInt8.ofNat (x.toNat + t.toNat), by rw [UInt8.toNat_ofNat']; omega⟩
        have hgs4 : g ≤ w4.heap.size := Nat.le_trans hgs (Nat.le_trans h3.size h4.size)
        have hbs := (o4.set8_below (by omega) j (.int .u8 (z.toNat : Int)) hgs4)
        have f5 := f4.trans (hbs.mono (by have := HG.out; have := h1.size; omega))
        have o5 := OS.out z
        clear OS hbs
        go_wp2_with fail
        refine (sum_any _ m m (l.set j z) _ o5.sl (by omega)).mono ?_
        rintro e w6 ⟨rfl, h6⟩
        unfold hv
        have f6 := f5.trans (h6.mono f5.size)
        have o6 := o5.to h6
        go_wp2_with fail
        refine (refSum_any _ m m (l.set j z) w6 o6.sl (by omega)).mono ?_
        rintro e w7 ⟨rfl, h7⟩
        unfold hv
        have f7 := f6.trans (h7.mono f6.size)
        have eq2 := eq_self (shaS ((l.set j z))) (shaS_len _)
        go_wp2_with fail
        go_ret
        exact ⟨rfl, f7⟩
      · have t2 : ¬ (0 : Int) < (m : Int) := by omega
        go_wp2_with fail
        clear eq1
        refine (sum_any _ m m l _ o4.sl (by omega)).mono ?_
        rintro e w6 ⟨rfl, h6⟩
        unfold hv
        have f6 := f4.trans (h6.mono f4.size)
        have o6 := o4.to h6
        go_wp2_with fail
        refine (refSum_any _ m m l w6 o6.sl (by omega)).mono ?_
        rintro e w7 ⟨rfl, h7⟩
        unfold hv
        have f7 := f6.trans (h7.mono f6.size)
        have eq2 := eq_self (shaS (l)) (shaS_len _)
        go_wp2_with fail
        go_ret
        exact ⟨rfl, f7⟩
end Go.Proofs.Ytaaiembhdfgkjaa
