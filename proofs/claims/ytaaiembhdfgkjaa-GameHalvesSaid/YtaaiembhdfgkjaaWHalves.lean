/- The walk of capstanlaw16.GameHalves. -/
import Derived.Test.YtaaiembhdfgkjaaGameK
namespace Go.Proofs.Ytaaiembhdfgkjaa
open Go.RowKit
theorem eq_same (a : List UInt8) (ha : a.length = 32) (w : World) : (Op.equalIn 10000 26 (.agg (B8 a).toArray) (.agg (B8 a).toArray)).run Try.prog w = .ok true w := by
  rw [eq_hash a a ha ha w]
  simp
theorem GB.drew {t : TypeId} {w : World} {b : Nat} {v : Value} {d : GD} (h : GB t w b v d) : GB t w.drew b v d := ⟨h.blk, h.len⟩
/-- the game when the middle is said -/
def saidG (N : Int) (mid : List UInt8) : GD := ⟨0, N, one_ 1, one_ 2, mid, 2, 1, 4, false, 0, 0⟩
/-- the game at its beginning -/
def begG (N : Int) (now : Int) : GD := ⟨0, N, one_ 1, one_ 2, zero32, 1, 0, now + 3, false, 0, 0⟩
theorem beg_eq {N : Int} (h : N ≠ 1) (now : Int) : turnD (startD N (one_ 1) (one_ 2) now) = begG N now := by
  unfold turnD startD begG zeroGD
  dsimp only
  rw [if_neg (by omega)]
theorem begG_len (N now : Int) : GLen (begG N now) := ⟨rfl, rfl, rfl⟩
set_option maxRecDepth 100000 in
set_option maxHeartbeats 4000000 in
theorem gameHalves_walk (w : World) (n : Int) (n_lo : -9223372036854775808 ≤ n) (n_hi : n < 9223372036854775808) (right : Bool) (mid : List UInt8) (hm : mid.length = 32) :
    Calls Try.prog 10 #[.int .i64 n, .bool right, hv mid] w (RB true w) := by
  unfold hv
  obtain ⟨k, hk, hk5⟩ : ∃ k : Nat, n % 500 = (k : Int) ∧ k < 500 := ⟨(n % 500).toNat, by omega, by omega⟩
  have HK := Lib.hid hk
  have HM := Lib.hid hm
  obtain ⟨W, HW, hbw, bm⟩ : ∃ W, Hid (W = w.alloc (.cells (B8 mid).toArray 26)) ∧ Below w.heap.size w W ∧ Blk W w.heap.size 26 (B8 mid) :=
    ⟨_, rfl, (Below.refl _ _).alloc (Nat.le_refl _) _, Blk.new w (B8 mid).toArray 26⟩
  clear hk hm
  go_enter Try.func10, Try.ntmps10
  go_upto_region 1 with fail
  refine wp_at HW.out ?_
  clear HW
  go_wp2_with fail
  refine (gameKnown_any _).mono ?_
  rintro e w1 ⟨rfl, hb1⟩
  have bm1 := bm.to hb1
  have f1 := hbw.trans (hb1.mono hbw.size)
  clear bm hb1 hbw
  go_wp2_with fail
  refine (within_capstanlaw16 n 500 _ (by omega) (by omega) n_lo n_hi).mono ?_
  rintro e w' ⟨rfl, rfl⟩
  rw [HK.out]
  obtain ⟨N, hN⟩ : ∃ N : Nat, N = 2 + k := ⟨_, rfl⟩
  have u1 : (2 : Int) + (k : Int) = (N : Int) := by omega
  have hN2 : 2 ≤ N := by omega
  have hN5 : N ≤ 502 := by omega
  clear hN
  go_wp2_with fail
  refine (hashes_any N _ (by omega)).mono ?_
  rintro e w2 ⟨A2, c2, rfl, ho2, hb2⟩
  have bm2 := bm1.to hb2
  have f2 := f1.trans (hb2.mono f1.size)
  clear bm1 hb2 f1
  go_wp2_with (first
    | (refine wpl_build (by rfl) _ _ rfl _ built_one1 ?_)
    | (refine wpl_build (by rfl) _ _ rfl _ built_one2 ?_))
  refine (start_ok A2 N c2 (hashL N) (one_ 1) (one_ 2) 0 w2 ho2.sl (by omega) (by omega) rfl rfl ⟨by decide, by decide⟩).mono ?_
  rintro e w3 ⟨A3, c3, rfl, sl3, hb3, _⟩
  rw [beg_eq (by omega) 0]
  have bm3 := bm2.to hb3
  have f3 := f2.trans (hb3.mono f2.size)
  clear bm2 hb3 f2 ho2
  dsimp only
  obtain ⟨b3, o3, rfl, hlt3⟩ := sl3.some_ (by omega)
  go_wp2_with (first
    | (refine wpl_gput (Blk.new _ _ _) zero_len (begG_len _ _) rfl (by rfl) _ _ _ rfl rfl rfl info_g ?_
       intro w4 gb4 bu4
       have bm4 := (bm3.to ((Below.refl _ _).alloc (Nat.le_refl _) (.cells Try.zeroCells41 41))).but bu4 (by have := bm3.lt; simp; omega)
       have f4 := (f3.alloc f3.size _).trans (below_but bu4 f3.size (by simp; exact Nat.le_succ_of_le f3.size))
       have sl4 := (sl3.alloc (.cells Try.zeroCells41 41)).but bu4 (by simp; omega)
       clear bu4 bm3 f3 sl3)
    | (refine wpl_gload gb4 (by rfl) _ _ rfl rfl _ Try.underlying41 rfl info_g ?_)
    | (refine wpl_load_fld (by rfl) _ _ rfl w.heap.size 0 rfl (B8 mid) _ bm4.range Try.underlying26 rfl (info_hash HM.out) ?_))
  refine (say_any (some ⟨b3, o3, none⟩) N c3 (hashL N) (begG N 0) (begG_len _ _) mid 1 w4 sl4 (by omega) HM.out (by show (0 : Int) ≤ 0; omega) (by show (0 : Int) ≤ _; omega)).mono ?_
  have hsay : sayD (begG N 0) mid 1 = (saidG N mid, 0) := rfl
  rw [hsay]
  clear hsay
  rintro e w5 ⟨A5, c5, rfl, sl5, hb5, fr5⟩
  have bm5 := bm4.to hb5
  have f5 := f4.trans (hb5.mono f4.size)
  have gb5 := gb4.to hb5
  have hls : GLen (saidG N mid) := ⟨rfl, rfl, HM.out⟩
  clear bm4 f4 gb4 hb5 sl4
  dsimp only
  obtain ⟨b5, o5, rfl, hlt5⟩ := sl5.some_ (by omega)
  go_wp2_with (first
    | (refine wpl_gput (Blk.new _ _ _) zero_len hls rfl (by rfl) _ _ _ rfl rfl rfl info_g ?_
       intro w6 gb6 bu6
       have bm6 := (bm5.to ((Below.refl _ _).alloc (Nat.le_refl _) (.cells Try.zeroCells41 41))).but bu6 (by have := bm5.lt; simp; omega)
       have f6 := (f5.alloc f5.size _).trans (below_but bu6 f5.size (by simp; exact Nat.le_succ_of_le f5.size))
       have sl6 := (sl5.alloc (.cells Try.zeroCells41 41)).but bu6 (by simp; omega)
       clear bu6 bm5 f5 sl5)
    | (refine wpl_gload gb6 (by rfl) _ _ rfl rfl _ Try.underlying41 rfl info_g ?_))
  refine (choose_any (some ⟨b5, o5, none⟩) N c5 (hashL N) (saidG N mid) hls right 2 w6 sl6 (by omega) (by show (0 : Int) ≤ 1; omega) (by show (1 : Int) ≤ _; omega) (by show (0 : Int) ≤ 0; omega) (by show (0 : Int) ≤ N; omega) (by show (N : Int) ≤ _; omega)).mono ?_
  obtain ⟨y, hy⟩ : ∃ y, y = movedD (turnD (halfD (saidG N mid) right)) 2 := ⟨_, rfl⟩
  have hcho : chooseD (saidG N mid) right 2 = (y, 0) := by rw [hy]; rfl
  rw [hcho]
  clear hcho
  rintro e w7 ⟨A7, c7, rfl, sl7, hb7, fr7⟩
  have bm7 := bm6.to hb7
  have f7 := f6.trans (hb7.mono f6.size)
  have gb7 := gb6.to hb7
  have hly : GLen y := by subst hy; cases right <;> exact ⟨by first | exact HM.out | rfl, by first | exact HM.out | rfl, rfl⟩
  have y0 : y.mid = zero32 := by subst hy; cases right <;> rfl
  have y1 : y.lo = if right then (N : Int) / 2 else 0 := by
    subst hy
    cases right
    · rfl
    · show (0 : Int) + ((N : Int) - 0) / 2 = (N : Int) / 2
      omega
  have y2 : y.hi = if right then (N : Int) else (N : Int) / 2 := by
    subst hy
    cases right
    · show (0 : Int) + ((N : Int) - 0) / 2 = (N : Int) / 2
      omega
    · rfl
  have y3 : y.rlo = if right then mid else one_ 1 := by subst hy; cases right <;> rfl
  have y4 : y.rhi = if right then one_ 2 else mid := by subst hy; cases right <;> rfl
  have Y0 := Lib.hid y0
  have Y1 := Lib.hid y1
  have Y2 := Lib.hid y2
  have Y3 := Lib.hid y3
  have Y4 := Lib.hid y4
  clear bm6 f6 gb6 hb7 sl6 sl7 fr7 y0 y1 y2 y3 y4 hy
  dsimp only
  have q1 := eq_same mid HM.out
  have q2 := eq_same zero32 rfl
  have q3 := eq_same (one_ 1) rfl
  have q4 := eq_same (one_ 2) rfl
  have r5 := gb7.lt
  cases right
  all_goals
    go_wp2_with (first
      | (refine wpl_gput (Blk.new _ _ _) zero_len hly rfl (by rfl) _ _ _ rfl rfl rfl info_g ?_
         intro w8 gb8 bu8
         have bm8 := (bm7.to ((Below.refl _ _).alloc (Nat.le_refl _) (.cells Try.zeroCells41 41))).but bu8 (by have := bm7.lt; simp; omega)
         have f8 := (f7.alloc f7.size _).trans (below_but bu8 f7.size (by simp; exact Nat.le_succ_of_le f7.size))
         have gx8 := (gb7.to ((Below.refl _ _).alloc (Nat.le_refl _) (.cells Try.zeroCells41 41))).but bu8 (by simp; omega)
         have cx1 := gx8.c1
         have cx2 := gx8.c2
         have cx99 := gx8.c99
         have cy1 := gb8.c1
         have cy2 := gb8.c2
         have ry3 := gb8.r3
         have ry35 := gb8.r35
         have ry67 := gb8.r67
         rw [Y1.out] at cy1
         rw [Y2.out] at cy2
         rw [Y3.out] at ry3
         rw [Y4.out] at ry35
         rw [Y0.out] at ry67
         simp only [Bool.false_eq_true, if_false, if_true] at cy1 cy2 ry3 ry35
         clear bu8 bm7 f7 gb7)
      | (refine wpl_load_fld (by rfl) _ _ rfl w.heap.size 0 rfl (B8 mid) _ bm8.range Try.underlying26 rfl (info_hash HM.out) ?_)
      | (refine wpl_load_fld (by rfl) _ _ rfl w5.heap.size 67 rfl (B8 mid) _ gx8.r67 Try.underlying26 rfl (info_hash HM.out) ?_)
      | (refine wpl_load_fld (by rfl) _ _ rfl w7.heap.size 67 rfl (B8 zero32) _ ry67 Try.underlying26 rfl (info_hash rfl) ?_)
      | (refine wpl_build (by rfl) _ _ rfl _ built_zero ?_)
      | (refine wpl_build (by rfl) _ _ rfl _ built_one1 ?_)
      | (refine wpl_build (by rfl) _ _ rfl _ built_one2 ?_)
      | (refine wpl_load_fld (by rfl) _ _ rfl w7.heap.size 3 rfl (B8 (one_ 1)) _ ry3 Try.underlying26 rfl (info_hash rfl) ?_)
      | (refine wpl_load_fld (by rfl) _ _ rfl w7.heap.size 3 rfl (B8 mid) _ ry3 Try.underlying26 rfl (info_hash HM.out) ?_)
      | (refine wpl_load_fld (by rfl) _ _ rfl w7.heap.size 35 rfl (B8 (one_ 2)) _ ry35 Try.underlying26 rfl (info_hash rfl) ?_)
      | (refine wpl_load_fld (by rfl) _ _ rfl w7.heap.size 35 rfl (B8 mid) _ ry35 Try.underlying26 rfl (info_hash HM.out) ?_))
    go_ret
    exact ⟨rfl, f8⟩
end Go.Proofs.Ytaaiembhdfgkjaa
