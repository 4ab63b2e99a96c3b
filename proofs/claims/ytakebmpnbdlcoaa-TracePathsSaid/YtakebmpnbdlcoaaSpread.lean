/- Walks: sha.spread. -/
import Derived.Test.YtakebmpnbdlcoaaRot
import Derived.Test.YtakebmpnbdlcoaaArr
import Derived.IntWalk
set_option linter.unusedSimpArgs false
set_option linter.unusedVariables false
namespace Go.Proofs.Ytakebmpnbdlcoaa
open Go.RowKit
set_option maxRecDepth 100000
def V32 (l : List Nat) : List Value := l.map fun n : Nat => Value.int .u32 (n : Int)
theorem V32_len (l : List Nat) : (V32 l).length = l.length := by simp [V32]
theorem V32_get {l : List Nat} {i n : Nat} (h : l[i]? = some n) : (V32 l)[i]? = some (.int .u32 (n : Int)) := by simp [V32, h]
theorem V32_one (l : List Nat) : ∀ v ∈ V32 l, v.oneCell' = true := by
  intro u hu
  obtain ⟨c, _, rfl⟩ := List.mem_map.1 hu
  rfl
theorem w4_lt (l : List UInt8) (i : Nat) : w4 l i < 4294967296 := by
  unfold w4
  have := (l.getD (4 * i) 0).toNat_lt
  have := (l.getD (4 * i + 1) 0).toNat_lt
  have := (l.getD (4 * i + 2) 0).toNat_lt
  have := (l.getD (4 * i + 3) 0).toNat_lt
  omega
theorem sched_lt (l : List UInt8) : ∀ (i j : Nat), (sched l i).getD j 0 < 4294967296
  | 0, j => by simp [sched]
  | i + 1, j => by
    have hl := sched_lt l i j
    unfold sched
    simp only [List.getD, List.getElem?_append] at hl ⊢
    split
    · exact hl
    · rcases Nat.eq_zero_or_pos (j - (sched l i).length) with h | h
      · rw [h]
        simp only [List.getElem?_cons_zero, Option.getD_some]
        split
        · exact w4_lt l i
        · exact Nat.mod_lt _ (by decide)
      · rw [List.getElem?_eq_none (by simp; omega)]
        simp
theorem sched_len (l : List UInt8) : ∀ i, (sched l i).length = i
  | 0 => rfl
  | i + 1 => by simp [sched, sched_len l i]
theorem sched_lo (l : List UInt8) (i : Nat) (h : i < 16) : sched l (i + 1) = sched l i ++ [w4 l i] := by rw [sched, if_pos h]
theorem sched_hi (l : List UInt8) (i : Nat) (h : 16 ≤ i) : sched l (i + 1) = sched l i ++ [nextW (sched l i) i] := by rw [sched, if_neg (by omega)]
theorem fill_set (l : List Nat) (i k x : Nat) (z : Value) (hl : l.length = i) (hk : 0 < k) : (V32 l ++ List.replicate k z).set i (.int .u32 (x : Int)) = V32 (l ++ [x]) ++ List.replicate (k - 1) z := by
  obtain ⟨k, rfl⟩ : ∃ j, k = j + 1 := ⟨k - 1, by omega⟩
  rw [List.set_append_right _ _ (by rw [V32_len]; omega), V32_len, hl, Nat.sub_self, List.replicate_succ, List.set_cons_zero]
  simp [V32]
theorem wrap_u32_nat (a : Nat) (h : a < 4294967296) : IntKind.u32.wrap (a : Int) = (a : Int) := by rw [IntKind.wrap_u32']; omega
theorem be_word (a b c d : UInt8) : bits .or .u32 (bits .or .u32 (bits .or .u32 (IntKind.u32.wrap (IntKind.u32.wrap (a.toNat : Int) * 16777216)) (IntKind.u32.wrap (IntKind.u32.wrap (b.toNat : Int) * 65536))) (IntKind.u32.wrap (IntKind.u32.wrap (c.toNat : Int) * 256))) (IntKind.u32.wrap (d.toNat : Int)) = ((a.toNat * 16777216 + b.toNat * 65536 + c.toNat * 256 + d.toNat : Nat) : Int) := by
  have ha := a.toNat_lt
  have hb := b.toNat_lt
  have hc := c.toNat_lt
  have hd := d.toNat_lt
  generalize a.toNat = a at *
  generalize b.toNat = b at *
  generalize c.toNat = c at *
  generalize d.toNat = d at *
  have e : ∀ x k : Nat, x < 256 → k ≤ 16777216 → IntKind.u32.wrap (IntKind.u32.wrap (x : Int) * (k : Int)) = ((x * k : Nat) : Int) := by
    intro x k hx hk
    have hxk : x * k < 256 * 16777216 := Nat.lt_of_lt_of_le (Nat.mul_lt_mul_of_lt_of_le hx hk (by decide)) (Nat.le_refl _)
    rw [wrap_u32_nat x (by omega), ← Int.natCast_mul, wrap_u32_nat _ (by omega)]
  have ea := e a 16777216 (by omega) (by omega)
  have eb := e b 65536 (by omega) (by omega)
  have ec := e c 256 (by omega) (by omega)
  simp only [Int.cast_ofNat_Int] at ea eb ec
  rw [ea, eb, ec, wrap_u32_nat d (by omega), u32_or_nat _ _ (by omega) (by omega), nat_join 24 _ _ (by omega) (by omega), u32_or_nat _ _ (by omega) (by omega), nat_join 16 _ _ (by omega) (by omega), u32_or_nat _ _ (by omega) (by omega), nat_join 8 _ _ (by omega) (by omega)]
theorem shr_lt {x : Nat} (k : Nat) (h : x < 4294967296) : x / k < 4294967296 := Nat.lt_of_le_of_lt (Nat.div_le_self _ _) h
theorem xor_lt {a b : Nat} (ha : a < 4294967296) (hb : b < 4294967296) : a ^^^ b < 4294967296 := Nat.xor_lt_two_pow (n := 32) ha hb
theorem and_lt {a b : Nat} (ha : a < 4294967296) : a &&& b < 4294967296 := Nat.lt_of_le_of_lt Nat.and_le_left ha
theorem lsig0_lt {x : Nat} (h : x < 4294967296) : lsig0 x < 4294967296 := xor_lt (xor_lt (rot_lt h) (rot_lt h)) (shr_lt _ h)
theorem lsig1_lt {x : Nat} (h : x < 4294967296) : lsig1 x < 4294967296 := xor_lt (xor_lt (rot_lt h) (rot_lt h)) (shr_lt _ h)
theorem usig0_lt {x : Nat} (h : x < 4294967296) : usig0 x < 4294967296 := xor_lt (xor_lt (rot_lt h) (rot_lt h)) (rot_lt h)
theorem usig1_lt {x : Nat} (h : x < 4294967296) : usig1 x < 4294967296 := xor_lt (xor_lt (rot_lt h) (rot_lt h)) (rot_lt h)
theorem lsig0_bits (x : Nat) (h : x < 4294967296) : bits .xor .u32 (bits .xor .u32 ((rotr 7 x : Nat) : Int) ((rotr 18 x : Nat) : Int)) ((x : Int) / 8) = ((lsig0 x : Nat) : Int) := by
  rw [u32_xor_nat _ _ (rot_lt h) (rot_lt h), show ((x : Int) / 8) = ((x / 8 : Nat) : Int) from by omega, u32_xor_nat _ _ (xor_lt (rot_lt h) (rot_lt h)) (shr_lt _ h)]
  rfl
theorem lsig1_bits (x : Nat) (h : x < 4294967296) : bits .xor .u32 (bits .xor .u32 ((rotr 17 x : Nat) : Int) ((rotr 19 x : Nat) : Int)) ((x : Int) / 1024) = ((lsig1 x : Nat) : Int) := by
  rw [u32_xor_nat _ _ (rot_lt h) (rot_lt h), show ((x : Int) / 1024) = ((x / 1024 : Nat) : Int) from by omega, u32_xor_nat _ _ (xor_lt (rot_lt h) (rot_lt h)) (shr_lt _ h)]
  rfl
theorem usig0_bits (x : Nat) (h : x < 4294967296) : bits .xor .u32 (bits .xor .u32 ((rotr 2 x : Nat) : Int) ((rotr 13 x : Nat) : Int)) ((rotr 22 x : Nat) : Int) = ((usig0 x : Nat) : Int) := by
  rw [u32_xor_nat _ _ (rot_lt h) (rot_lt h), u32_xor_nat _ _ (xor_lt (rot_lt h) (rot_lt h)) (rot_lt h)]
  rfl
theorem usig1_bits (x : Nat) (h : x < 4294967296) : bits .xor .u32 (bits .xor .u32 ((rotr 6 x : Nat) : Int) ((rotr 11 x : Nat) : Int)) ((rotr 25 x : Nat) : Int) = ((usig1 x : Nat) : Int) := by
  rw [u32_xor_nat _ _ (rot_lt h) (rot_lt h), u32_xor_nat _ _ (xor_lt (rot_lt h) (rot_lt h)) (rot_lt h)]
  rfl
theorem sum4 (a b c d : Nat) : IntKind.u32.wrap (IntKind.u32.wrap (IntKind.u32.wrap ((a : Int) + (b : Int)) + (c : Int)) + (d : Int)) = (((a + b + c + d) % 4294967296 : Nat) : Int) := by
  simp only [IntKind.wrap_u32']
  omega
set_option maxHeartbeats 1000000 in
theorem spread_any (b o c : Nat) (l : List UInt8) (w : World) (hs : Sl w 1 (some ⟨b, o, none⟩) 64 (B8 l)) (hb : b < w.heap.size) (hc : 64 ≤ c) (hc2 : c ≤ 9223372036854775807) :
    Calls Try.prog 66 #[.slice (some ⟨b, o, none⟩) 64 c] w fun e w' => e = .returned (.agg (V32 (sched l 64)).toArray) ∧ Below w.heap.size w w' := by
  have hl : l.length = 64 := hs.len8.symm
  obtain ⟨W, hW⟩ : ∃ W, W = (w.alloc (.cells #[.int .u32 0, .int .u32 0, .int .u32 0, .int .u32 0, .int .u32 0, .int .u32 0, .int .u32 0, .int .u32 0, .int .u32 0, .int .u32 0, .int .u32 0, .int .u32 0, .int .u32 0, .int .u32 0, .int .u32 0, .int .u32 0, .int .u32 0, .int .u32 0, .int .u32 0, .int .u32 0, .int .u32 0, .int .u32 0, .int .u32 0, .int .u32 0, .int .u32 0, .int .u32 0, .int .u32 0, .int .u32 0, .int .u32 0, .int .u32 0, .int .u32 0, .int .u32 0, .int .u32 0, .int .u32 0, .int .u32 0, .int .u32 0, .int .u32 0, .int .u32 0, .int .u32 0, .int .u32 0, .int .u32 0, .int .u32 0, .int .u32 0, .int .u32 0, .int .u32 0, .int .u32 0, .int .u32 0, .int .u32 0, .int .u32 0, .int .u32 0, .int .u32 0, .int .u32 0, .int .u32 0, .int .u32 0, .int .u32 0, .int .u32 0, .int .u32 0, .int .u32 0, .int .u32 0, .int .u32 0, .int .u32 0, .int .u32 0, .int .u32 0, .int .u32 0] 93)).alloc (.cells #[.int .u32 0, .int .u32 0, .int .u32 0, .int .u32 0, .int .u32 0, .int .u32 0, .int .u32 0, .int .u32 0, .int .u32 0, .int .u32 0, .int .u32 0, .int .u32 0, .int .u32 0, .int .u32 0, .int .u32 0, .int .u32 0, .int .u32 0, .int .u32 0, .int .u32 0, .int .u32 0, .int .u32 0, .int .u32 0, .int .u32 0, .int .u32 0, .int .u32 0, .int .u32 0, .int .u32 0, .int .u32 0, .int .u32 0, .int .u32 0, .int .u32 0, .int .u32 0, .int .u32 0, .int .u32 0, .int .u32 0, .int .u32 0, .int .u32 0, .int .u32 0, .int .u32 0, .int .u32 0, .int .u32 0, .int .u32 0, .int .u32 0, .int .u32 0, .int .u32 0, .int .u32 0, .int .u32 0, .int .u32 0, .int .u32 0, .int .u32 0, .int .u32 0, .int .u32 0, .int .u32 0, .int .u32 0, .int .u32 0, .int .u32 0, .int .u32 0, .int .u32 0, .int .u32 0, .int .u32 0, .int .u32 0, .int .u32 0, .int .u32 0, .int .u32 0] 93) := ⟨_, rfl⟩
  have hbw : Below w.heap.size w W := by
    subst hW
    exact ((Below.refl _ _).alloc (Nat.le_refl _) _).alloc (by simp) _
  have b2 : Blk W w.heap.size 93 (List.replicate 64 (.int .u32 0)) := by
    subst hW
    exact (Blk.new w #[.int .u32 0, .int .u32 0, .int .u32 0, .int .u32 0, .int .u32 0, .int .u32 0, .int .u32 0, .int .u32 0, .int .u32 0, .int .u32 0, .int .u32 0, .int .u32 0, .int .u32 0, .int .u32 0, .int .u32 0, .int .u32 0, .int .u32 0, .int .u32 0, .int .u32 0, .int .u32 0, .int .u32 0, .int .u32 0, .int .u32 0, .int .u32 0, .int .u32 0, .int .u32 0, .int .u32 0, .int .u32 0, .int .u32 0, .int .u32 0, .int .u32 0, .int .u32 0, .int .u32 0, .int .u32 0, .int .u32 0, .int .u32 0, .int .u32 0, .int .u32 0, .int .u32 0, .int .u32 0, .int .u32 0, .int .u32 0, .int .u32 0, .int .u32 0, .int .u32 0, .int .u32 0, .int .u32 0, .int .u32 0, .int .u32 0, .int .u32 0, .int .u32 0, .int .u32 0, .int .u32 0, .int .u32 0, .int .u32 0, .int .u32 0, .int .u32 0, .int .u32 0, .int .u32 0, .int .u32 0, .int .u32 0, .int .u32 0, .int .u32 0, .int .u32 0] 93).to ((Below.refl _ _).alloc (Nat.le_refl _) _)
  have b3 : Blk W (w.heap.size + 1) 93 (List.replicate 64 (.int .u32 0)) := by
    subst hW
    have := Blk.new (w.alloc (.cells #[.int .u32 0, .int .u32 0, .int .u32 0, .int .u32 0, .int .u32 0, .int .u32 0, .int .u32 0, .int .u32 0, .int .u32 0, .int .u32 0, .int .u32 0, .int .u32 0, .int .u32 0, .int .u32 0, .int .u32 0, .int .u32 0, .int .u32 0, .int .u32 0, .int .u32 0, .int .u32 0, .int .u32 0, .int .u32 0, .int .u32 0, .int .u32 0, .int .u32 0, .int .u32 0, .int .u32 0, .int .u32 0, .int .u32 0, .int .u32 0, .int .u32 0, .int .u32 0, .int .u32 0, .int .u32 0, .int .u32 0, .int .u32 0, .int .u32 0, .int .u32 0, .int .u32 0, .int .u32 0, .int .u32 0, .int .u32 0, .int .u32 0, .int .u32 0, .int .u32 0, .int .u32 0, .int .u32 0, .int .u32 0, .int .u32 0, .int .u32 0, .int .u32 0, .int .u32 0, .int .u32 0, .int .u32 0, .int .u32 0, .int .u32 0, .int .u32 0, .int .u32 0, .int .u32 0, .int .u32 0, .int .u32 0, .int .u32 0, .int .u32 0, .int .u32 0] 93)) #[.int .u32 0, .int .u32 0, .int .u32 0, .int .u32 0, .int .u32 0, .int .u32 0, .int .u32 0, .int .u32 0, .int .u32 0, .int .u32 0, .int .u32 0, .int .u32 0, .int .u32 0, .int .u32 0, .int .u32 0, .int .u32 0, .int .u32 0, .int .u32 0, .int .u32 0, .int .u32 0, .int .u32 0, .int .u32 0, .int .u32 0, .int .u32 0, .int .u32 0, .int .u32 0, .int .u32 0, .int .u32 0, .int .u32 0, .int .u32 0, .int .u32 0, .int .u32 0, .int .u32 0, .int .u32 0, .int .u32 0, .int .u32 0, .int .u32 0, .int .u32 0, .int .u32 0, .int .u32 0, .int .u32 0, .int .u32 0, .int .u32 0, .int .u32 0, .int .u32 0, .int .u32 0, .int .u32 0, .int .u32 0, .int .u32 0, .int .u32 0, .int .u32 0, .int .u32 0, .int .u32 0, .int .u32 0, .int .u32 0, .int .u32 0, .int .u32 0, .int .u32 0, .int .u32 0, .int .u32 0, .int .u32 0, .int .u32 0, .int .u32 0, .int .u32 0] 93
    simpa using this
  have sW := hs.to hbw
  have HW := Lib.hid hW
  have HL := Lib.hid hl
  clear hW hl hs
  go_enter Try.func66, Try.ntmps66
  go_wp2_with fail
  refine wp_at HW.out ?_
  clear HW
  generalize hN : w.heap.size = N at *
  have HN := Lib.hid hN
  clear hN
  go_loopw [8] (fun v wr => ∃ i : Nat, i ≤ 16 ∧ v = .int .i64 i ∧ Blk wr (N + 1) 93 (V32 (sched l i) ++ List.replicate (64 - i) (.int .u32 0)) ∧ RBut (some (N + 1)) W wr) (fun v _ => 16 - (intOf v).toNat)
  case atStart => exact ⟨0, by omega, rfl, by simpa [V32, sched] using b3, RBut.refl_ _ _⟩
  case round =>
    obtain ⟨i, hi, rfl, bi, hbi⟩ := hrel
    by_cases hlt : i < 16
    · have t1 : (i : Int) < 16 := by omega
      obtain ⟨p0, hp0⟩ : ∃ p0 : Nat, p0 = 4 * i := ⟨_, rfl⟩
      obtain ⟨p1, hp1⟩ : ∃ p1 : Nat, p1 = 4 * i + 1 := ⟨_, rfl⟩
      obtain ⟨p2, hp2⟩ : ∃ p2 : Nat, p2 = 4 * i + 2 := ⟨_, rfl⟩
      obtain ⟨p3, hp3⟩ : ∃ p3 : Nat, p3 = 4 * i + 3 := ⟨_, rfl⟩
      have hl := HL.out
      have cel : ∀ p, p < 64 → ∃ y : UInt8, l.getD p 0 = y ∧ ∀ w', RBut (some (N + 1)) wr.drew w' → w'.cell? ⟨b, o + p, none⟩ = some (.int .u8 (y.toNat : Int)) := by
        intro p hp
        refine ⟨l.getD p 0, rfl, fun w' hw' => ?_⟩
        have h1 := (sW.but hbi (fun h => by injection h; omega)).drew.but hw' (fun h => by injection h; omega)
        refine h1.cell ?_
        simp [B8, b8, List.getElem?_eq_getElem (show p < l.length by omega), List.getD]
      obtain ⟨y0, g0, c0⟩ := cel p0 (by omega)
      obtain ⟨y1, g1, c1⟩ := cel p1 (by omega)
      obtain ⟨y2, g2, c2⟩ := cel p2 (by omega)
      obtain ⟨y3, g3, c3⟩ := cel p3 (by omega)
      have hx : w4 l i = y0.toNat * 16777216 + y1.toNat * 65536 + y2.toNat * 256 + y3.toNat := by unfold w4; rw [← hp3, ← hp2, ← hp1, ← hp0, g0, g1, g2, g3]
      have HX := Lib.hid hx
      have l0 : (p0 : Int) < 64 := by omega
      have t64 : (i : Int) < 64 := by omega
      have l1 : (p1 : Int) < 64 := by omega
      have l2 : (p2 : Int) < 64 := by omega
      have l3 : (p3 : Int) < 64 := by omega
      have v0 : IntKind.i64.wrap (4 * (i : Int)) = (p0 : Int) := by rw [IntWalk.i64_in _ (by omega)]; omega
      have v1 : IntKind.i64.wrap ((p0 : Int) + 1) = (p1 : Int) := by rw [IntWalk.i64_in _ (by omega)]; omega
      have v2 : IntKind.i64.wrap ((p0 : Int) + 2) = (p2 : Int) := by rw [IntWalk.i64_in _ (by omega)]; omega
      have v3 : IntKind.i64.wrap ((p0 : Int) + 3) = (p3 : Int) := by rw [IntWalk.i64_in _ (by omega)]; omega
      have bi' : Blk wr.drew (N + 1) 93 (V32 (sched l i) ++ List.replicate (64 - i) (.int .u32 0)) := bi
      have hbi' := RBut.trans_ _ _ _ _ hbi (RBut.of_below (Below.refl _ _).drew)
      clear hl cel g0 g1 g2 g3 hx hp0 hp1 hp2 hp3 bi hbi
      go_wp2_with fail
      refine wp_region_C [(0, true), (1, true), (2, true), (3, true), (4, true), (5, true), (6, true), (7, true), (8, true), (9, true), (10, true), (11, true), (12, true), (13, true), (14, true), (15, true), (16, true), (17, true), (18, true), (19, true), (20, true), (21, true), (22, true), (23, true), (24, true), (25, true), (26, true), (27, false), (28, false), (29, false), (30, false), (31, false), (32, false), (33, false), (34, false), (35, false)] (RBut (some (N + 1))) (by kernel_rfl) (by kernel_rfl) (by kernel_rfl) (by decide) (RBut.refl_ _) (RBut.trans_ _) (by intro d v c a w h; cases d <;> exact h) ?_
      generalize wr.drew = wd at *
      have d3 := c3 wd (RBut.refl_ _ _)
      have BW := be_word y0 y1 y2 y3
      rw [← HX.out] at BW
      repeat (first | (refine wpC_quiet (v := ?_) rfl (by rfl) ?_ ?_; rotate_left; (· (intro w' hw'; go_simp; try with_reducible rfl)); simp only [Act.put, List.setIfInBounds_toArray, List.set_cons_zero, List.set_cons_succ]) | (refine wpC_val (v := ?_) (RBut.refl_ _) rfl (by rfl) ?_ ?_; rotate_left; (· (go_simp; try with_reducible rfl)); simp only [Act.put, List.setIfInBounds_toArray, List.set_cons_zero, List.set_cons_succ]) | (refine wpC_skip rfl (by rfl) ?_; simp only [Act.put, List.setIfInBounds_toArray, List.set_cons_zero, List.set_cons_succ]) | (refine wpC_skip' (RBut.refl_ _) rfl (by rfl) ?_; simp only [Act.put, List.setIfInBounds_toArray, List.set_cons_zero, List.set_cons_succ]))
      have ce : wd.cell? ⟨N + 1, i, none⟩ = some (.int .u32 0) := by rw [bi'.cell, List.getElem?_append_right (by rw [V32_len, sched_len]; omega), V32_len, sched_len, Nat.sub_self, List.getElem?_replicate, if_pos (by omega)]
      have fe := bi'.fz i
      (refine wpC_loud rfl (by rfl) ?_; intro K hK; go_simp)
      (refine hK.out _ _ (RBut.setC _ _ _ _) ?_; clear hK K; try simp only [Act.put, List.setIfInBounds_toArray, List.set_cons_zero, List.set_cons_succ])
      have bj := bi'.set_ i (.int .u32 ((w4 l i : Nat) : Int))
      rw [fill_set _ i (64 - i) _ _ (sched_len l i) (by omega)] at bj
      have hbj := RBut.trans_ _ _ _ _ hbi' (RBut.setC wd (N + 1) i (.int .u32 ((w4 l i : Nat) : Int)))
      refine wpC_nil ?_
      clear ce fe BW
      go_wp2
      go_roundw
      case rel => exact ⟨i + 1, by omega, by go_num, by rw [sched_lo l i hlt]; exact bj, hbj⟩
      case measure => simp [intOf]; omega
    · have t1 : ¬ (i : Int) < 16 := by omega
      obtain rfl : i = 16 := by omega
      go_wp2_with fail
      go_loopw [5] (fun v wr => ∃ i : Nat, 16 ≤ i ∧ i ≤ 64 ∧ v = .int .i64 i ∧ Blk wr (N + 1) 93 (V32 (sched l i) ++ List.replicate (64 - i) (.int .u32 0)) ∧ RBut (some (N + 1)) W wr) (fun v _ => 64 - (intOf v).toNat)
      case atStart => exact ⟨16, by omega, by omega, rfl, bi, hbi⟩
      case round =>
        clear bi hbi hi hlt t1
        obtain ⟨i, hi16, hi, rfl, bi, hbi⟩ := hrel
        by_cases hlt : i < 64
        · have t1 : (i : Int) < 64 := by omega
          go_wp2_with fail
          have hS : ∀ j, j < i → ∃ x, (sched l i).getD j 0 = x ∧ ∀ w', RBel wr.drew w' → w'.cell? ⟨N + 1, j, none⟩ = some (.int .u32 (x : Int)) := by
            intro j hj
            refine ⟨(sched l i).getD j 0, rfl, fun w' hw' => ?_⟩
            have hbk : Blk w' (N + 1) 93 (V32 (sched l i) ++ List.replicate (64 - i) (.int .u32 0)) := Blk.to (w := wr.drew) bi hw'
            rw [hbk.cell, List.getElem?_append_left (by rw [V32_len, sched_len]; omega)]
            exact V32_get (by rw [List.getD, List.getElem?_eq_getElem (by rw [sched_len]; omega)]; rfl)
          have hB : ∀ j, (sched l i).getD j 0 < 4294967296 := fun j => sched_lt l i j
          obtain ⟨q16, h16⟩ : ∃ q, q = i - 16 := ⟨_, rfl⟩
          obtain ⟨q15, h15⟩ : ∃ q, q = i - 15 := ⟨_, rfl⟩
          obtain ⟨q7, h7⟩ : ∃ q, q = i - 7 := ⟨_, rfl⟩
          obtain ⟨q2, h2⟩ : ∃ q, q = i - 2 := ⟨_, rfl⟩
          obtain ⟨x16, g16, c16⟩ := hS q16 (by omega)
          obtain ⟨x15, g15, c15⟩ := hS q15 (by omega)
          obtain ⟨x7, g7, c7⟩ := hS q7 (by omega)
          obtain ⟨x2, g2, c2⟩ := hS q2 (by omega)
          have k16 := hB q16
          have k15 := hB q15
          have k7 := hB q7
          have k2 := hB q2
          rw [g16] at k16
          rw [g15] at k15
          rw [g7] at k7
          rw [g2] at k2
          have hx : nextW (sched l i) i = (x16 + lsig0 x15 + x7 + lsig1 x2) % 4294967296 := by unfold nextW; rw [← h16, ← h15, ← h7, ← h2, g16, g15, g7, g2]
          have HX := Lib.hid hx
          have l16 : (q16 : Int) < 64 := by omega
          have l15 : (q15 : Int) < 64 := by omega
          have l7 : (q7 : Int) < 64 := by omega
          have l2 : (q2 : Int) < 64 := by omega
          have v16 : IntKind.i64.wrap ((i : Int) - 16) = (q16 : Int) := by rw [IntWalk.i64_in _ (by omega)]; omega
          have v15 : IntKind.i64.wrap ((i : Int) - 15) = (q15 : Int) := by rw [IntWalk.i64_in _ (by omega)]; omega
          have v7 : IntKind.i64.wrap ((i : Int) - 7) = (q7 : Int) := by rw [IntWalk.i64_in _ (by omega)]; omega
          have v2 : IntKind.i64.wrap ((i : Int) - 2) = (q2 : Int) := by rw [IntWalk.i64_in _ (by omega)]; omega
          have d16 : q16 ≠ i := by omega
          have d7 : q7 ≠ i := by omega
          have bi' : Blk wr.drew (N + 1) 93 (V32 (sched l i) ++ List.replicate (64 - i) (.int .u32 0)) := bi
          have hbi' := RBut.trans_ _ _ _ _ hbi (RBut.of_below (Below.refl _ _).drew)
          have e16 := c16 _ (RBel.refl_ _)
          have e7 := c7 _ (RBel.refl_ _)
          clear c16 c7 hS hB g16 g15 g7 g2 hx h16 h15 h7 h2 bi hbi
          refine wp_region_C [(0, true), (1, true), (2, true), (3, true), (4, true), (5, true), (6, true), (7, true), (8, false), (9, false)] RBel (by kernel_rfl) (by kernel_rfl) (by kernel_rfl) (by decide) RBel.refl_ RBel.trans_ (by intro d v c a w h; cases d <;> exact h) ?_
          generalize wr.drew = wd at *
          repeat (first | (refine wpC_quiet (v := ?_) rfl (by rfl) ?_ ?_; rotate_left; (· (intro w' hw'; go_simp; try with_reducible rfl)); simp only [Act.put, List.setIfInBounds_toArray, List.set_cons_zero, List.set_cons_succ]) | (refine wpC_val (v := ?_) (RBel.refl_) rfl (by rfl) ?_ ?_; rotate_left; (· (go_simp; try with_reducible rfl)); simp only [Act.put, List.setIfInBounds_toArray, List.set_cons_zero, List.set_cons_succ]) | (refine wpC_skip rfl (by rfl) ?_; simp only [Act.put, List.setIfInBounds_toArray, List.set_cons_zero, List.set_cons_succ]) | (refine wpC_skip' (RBel.refl_) rfl (by rfl) ?_; simp only [Act.put, List.setIfInBounds_toArray, List.set_cons_zero, List.set_cons_succ]))
          refine wpC_nil ?_
          clear c15 c2
          go_wp2_with fail
          have e16' : ∀ w', RCell (N + 1) i wd.drew w' → w'.cell? ⟨N + 1, q16, none⟩ = some (.int .u32 (x16 : Int)) := fun w' hw' => (hw'.2 q16 d16).trans e16
          have e7' : ∀ w', RCell (N + 1) i wd.drew w' → w'.cell? ⟨N + 1, q7, none⟩ = some (.int .u32 (x7 : Int)) := fun w' hw' => (hw'.2 q7 d7).trans e7
          have bi'' : Blk wd.drew (N + 1) 93 (V32 (sched l i) ++ List.replicate (64 - i) (.int .u32 0)) := bi'
          have hbi'' := RBut.trans_ _ _ _ _ hbi' (RBut.of_below (Below.refl _ _).drew)
          clear e16 e7 d16 d7 bi' hbi' v15 v2
          refine wp_region_C [(0, true), (1, true), (2, true), (3, true), (4, true), (5, true), (7, true), (10, true), (11, true), (14, true), (15, true), (16, true), (17, true), (19, true), (21, true), (24, true), (25, true), (6, false), (8, false), (9, true), (12, true), (13, true), (18, true), (20, false), (22, false), (23, false), (26, false), (27, false), (28, false), (29, false)] (RCell (N + 1) i) (by kernel_rfl) (by kernel_rfl) (by kernel_rfl) (by decide) (RCell.refl_ _ _) (RCell.trans_ _ _) (by intro d v c a w h; cases d <;> exact h) ?_
          generalize wd.drew = we at *
          have Y0 := lsig0_bits x15 k15
          have Y1 := lsig1_bits x2 k2
          have Y2 := sum4 x16 (lsig0 x15) x7 (lsig1 x2)
          rw [← HX.out] at Y2
          repeat (first | (refine wpC_quiet (v := ?_) rfl (by rfl) ?_ ?_; rotate_left; (· (intro w' hw'; go_simp; try with_reducible rfl)); simp only [Act.put, List.setIfInBounds_toArray, List.set_cons_zero, List.set_cons_succ]) | (refine wpC_val (v := ?_) (RCell.refl_ _ _) rfl (by rfl) ?_ ?_; rotate_left; (· (go_simp; try with_reducible rfl)); simp only [Act.put, List.setIfInBounds_toArray, List.set_cons_zero, List.set_cons_succ]) | (refine wpC_skip rfl (by rfl) ?_; simp only [Act.put, List.setIfInBounds_toArray, List.set_cons_zero, List.set_cons_succ]) | (refine wpC_skip' (RCell.refl_ _ _) rfl (by rfl) ?_; simp only [Act.put, List.setIfInBounds_toArray, List.set_cons_zero, List.set_cons_succ]))
          (refine wpC_loud rfl (by rfl) ?_; intro K hK; go_simp)
          refine (right_any x15 7 _ k15 (by omega) (by omega)).mono ?_
          rintro e w' ⟨rfl, rfl⟩
          (refine hK.out _ _ (RCell.refl_ _ _ _) ?_; clear hK K; try simp only [Act.put, List.setIfInBounds_toArray, List.set_cons_zero, List.set_cons_succ])
          (refine wpC_loud rfl (by rfl) ?_; intro K hK; go_simp)
          refine (right_any x15 18 _ k15 (by omega) (by omega)).mono ?_
          rintro e w' ⟨rfl, rfl⟩
          (refine hK.out _ _ (RCell.refl_ _ _ _) ?_; clear hK K; try simp only [Act.put, List.setIfInBounds_toArray, List.set_cons_zero, List.set_cons_succ])
          repeat (first | (refine wpC_quiet (v := ?_) rfl (by rfl) ?_ ?_; rotate_left; (· (intro w' hw'; go_simp; try with_reducible rfl)); simp only [Act.put, List.setIfInBounds_toArray, List.set_cons_zero, List.set_cons_succ]) | (refine wpC_val (v := ?_) (RCell.refl_ _ _) rfl (by rfl) ?_ ?_; rotate_left; (· (go_simp; try with_reducible rfl)); simp only [Act.put, List.setIfInBounds_toArray, List.set_cons_zero, List.set_cons_succ]) | (refine wpC_skip rfl (by rfl) ?_; simp only [Act.put, List.setIfInBounds_toArray, List.set_cons_zero, List.set_cons_succ]) | (refine wpC_skip' (RCell.refl_ _ _) rfl (by rfl) ?_; simp only [Act.put, List.setIfInBounds_toArray, List.set_cons_zero, List.set_cons_succ]))
          (refine wpC_loud rfl (by rfl) ?_; intro K hK; go_simp)
          refine (right_any x2 17 _ k2 (by omega) (by omega)).mono ?_
          rintro e w' ⟨rfl, rfl⟩
          (refine hK.out _ _ (RCell.refl_ _ _ _) ?_; clear hK K; try simp only [Act.put, List.setIfInBounds_toArray, List.set_cons_zero, List.set_cons_succ])
          (refine wpC_loud rfl (by rfl) ?_; intro K hK; go_simp)
          refine (right_any x2 19 _ k2 (by omega) (by omega)).mono ?_
          rintro e w' ⟨rfl, rfl⟩
          (refine hK.out _ _ (RCell.refl_ _ _ _) ?_; clear hK K; try simp only [Act.put, List.setIfInBounds_toArray, List.set_cons_zero, List.set_cons_succ])
          repeat (first | (refine wpC_quiet (v := ?_) rfl (by rfl) ?_ ?_; rotate_left; (· (intro w' hw'; go_simp; try with_reducible rfl)); simp only [Act.put, List.setIfInBounds_toArray, List.set_cons_zero, List.set_cons_succ]) | (refine wpC_val (v := ?_) (RCell.refl_ _ _) rfl (by rfl) ?_ ?_; rotate_left; (· (go_simp; try with_reducible rfl)); simp only [Act.put, List.setIfInBounds_toArray, List.set_cons_zero, List.set_cons_succ]) | (refine wpC_skip rfl (by rfl) ?_; simp only [Act.put, List.setIfInBounds_toArray, List.set_cons_zero, List.set_cons_succ]) | (refine wpC_skip' (RCell.refl_ _ _) rfl (by rfl) ?_; simp only [Act.put, List.setIfInBounds_toArray, List.set_cons_zero, List.set_cons_succ]))
          have ce : we.cell? ⟨N + 1, i, none⟩ = some (.int .u32 0) := by rw [bi''.cell, List.getElem?_append_right (by rw [V32_len, sched_len]; omega), V32_len, sched_len, Nat.sub_self, List.getElem?_replicate, if_pos (by omega)]
          have fe := bi''.fz i
          (refine wpC_loud rfl (by rfl) ?_; intro K hK; go_simp)
          (refine hK.out _ _ (RCell.set_ bi'' _) ?_; clear hK K; try simp only [Act.put, List.setIfInBounds_toArray, List.set_cons_zero, List.set_cons_succ])
          have bj := bi''.set_ i (.int .u32 ((nextW (sched l i) i : Nat) : Int))
          rw [fill_set _ i (64 - i) _ _ (sched_len l i) (by omega)] at bj
          have hbj := RBut.trans_ _ _ _ _ hbi'' (RBut.setC we (N + 1) i (.int .u32 ((nextW (sched l i) i : Nat) : Int)))
          refine wpC_nil ?_
          clear ce fe Y0 Y1 Y2
          go_wp2
          go_roundw
          case rel => exact ⟨i + 1, by omega, by omega, by go_num, by rw [sched_hi l i hi16]; exact bj, hbj⟩
          case measure => simp [intOf]; omega
        · have t1 : ¬ (i : Int) < 64 := by omega
          obtain rfl : i = 64 := by omega
          go_wp2_with (first
            | (refine wpl_load_blk rfl _ _ rfl _ rfl 93 (V32 (sched l 64)) _ (by simpa using bi) Try.underlying93 rfl (by rw [V32_len, sched_len]; kernel_rfl) ?_)
            | (refine wpl_store_blk rfl _ _ _ rfl N 93 (List.replicate 64 (.int .u32 0)) (V32 (sched l 64)) rfl rfl (b2.but hbi (fun h => by injection h; omega)) (by rw [V32_len, sched_len]; rfl) (by rw [V32_len, sched_len]; kernel_rfl) (V32_one _) ?_; intro w4 b4 hb4))
          exact bodyPost_ret (v := .agg (V32 (sched l 64)).toArray) (results_blk Try.results66 rfl b4 Try.underlying93 rfl (by rw [V32_len, sched_len]; kernel_rfl)) rfl ⟨rfl, by
            rw [HN.out]
            exact Below.trans hbw (Below.trans (below_but hbi (by omega) (HN.out ▸ hbw.size)) (below_but hb4 (Nat.le_refl _) (Nat.le_trans (HN.out ▸ hbw.size) hbi.size)))⟩
end Go.Proofs.Ytakebmpnbdlcoaa
