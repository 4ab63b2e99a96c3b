/- The walk of game.Same. -/
import Derived.Test.YtaaiembhdfgkjaaGameE
namespace Go.Proofs.Ytaaiembhdfgkjaa
open Go.RowKit
theorem built_num (d : GD) : Try.prog.built 80 [(0, .int .i64 d.lo), (1, .int .i64 d.hi), (2, .int .i64 d.turn), (3, .int .i64 d.moves), (4, .int .i64 d.limit), (5, .int .i64 d.cl), (6, .int .i64 d.ref), (7, .bool d.won)] = some (numC d).toArray := by kernel_rfl
theorem numC_one (d : GD) : ∀ u ∈ numC d, u.oneCell' = true := by
  intro u hu
  simp only [numC, List.mem_cons, List.not_mem_nil, or_false] at hu
  rcases hu with rfl | rfl | rfl | rfl | rfl | rfl | rfl | rfl <;> rfl
theorem info_num : (Try.prog.info? 80).map (·.size) = some 8 := by kernel_rfl
set_option maxRecDepth 100000 in
set_option maxHeartbeats 4000000 in
theorem same_e (A : Option Addr) (n c : Nat) (hs : List (List UInt8)) (a : GD) (A2 : Option Addr) (n2 c2 : Nat) (hs2 : List (List UInt8)) (b : GD) (w : World) (h : Sl w 32 A n (H8 hs)) (hl : ∀ x ∈ hs, x.length = 32) (h2 : Sl w 32 A2 n2 (H8 hs2)) (hl2 : ∀ x ∈ hs2, x.length = 32) (hn : n ≤ 4194304) (hn2 : n2 ≤ 4194304)
    (ga : GLen a) (gb : GLen b) (h1 : numEq a b) (h3 : rootEq a b) : Calls Try.prog 31 #[gval (.slice A n c) a, gval (.slice A2 n2 c2) b] w (RB (decide (a = b ∧ hs = hs2)) w) := by
  obtain ⟨W, HW, hbw, xa, xb⟩ : ∃ W, Hid (W = (w.alloc (.cells (gcells (.slice A n c) a).toArray 41)).alloc (.cells (gcells (.slice A2 n2 c2) b).toArray 41)) ∧ Below w.heap.size w W ∧
      GB 41 W w.heap.size (.slice A n c) a ∧ GB 41 W (w.heap.size + 1) (.slice A2 n2 c2) b := by
    refine ⟨_, rfl, ((Below.refl _ _).alloc (Nat.le_refl _) _).alloc (by simp) _, ⟨(Blk.new w (gcells (.slice A n c) a).toArray 41).to ((Below.refl _ _).alloc (Nat.le_refl _) _), ga⟩, ⟨?_, gb⟩⟩
    have := Blk.new (w.alloc (.cells (gcells (.slice A n c) a).toArray 41)) (gcells (.slice A2 n2 c2) b).toArray 41
    simpa using this
  have sa := h.to hbw
  have sb := h2.to hbw
  have hz := xb.lt
  have a1 := xa.c1
  have a2 := xa.c2
  have a3 := xa.c99
  have a4 := xa.c100
  have a5 := xa.c101
  have a6 := xa.c102
  have a7 := xa.c103
  have a8 := xa.c104
  have b1 := xb.c1
  have b2 := xb.c2
  have b3 := xb.c99
  have b4 := xb.c100
  have b5 := xb.c101
  have b6 := xb.c102
  have b7 := xb.c103
  have b8 := xb.c104
  have en := eq_numbers a b
  have er := eq_roots a b ga gb
  have na := numC_one a
  have nb := numC_one b
  have NA := Lib.hid na
  have NB := Lib.hid nb
  have HL := Lib.hid hl
  have HL2 := Lib.hid hl2
  clear na nb hl hl2
  unfold gval
  rw [decide_eq_true h1] at en
  rw [decide_eq_true h3] at er
  have HF : Hid (decide (a = b ∧ hs = hs2) = decide (hs = hs2)) := (by
    show _ = _
    have hab := (gd_eq a b).2 ⟨h1, h3⟩
    simp [hab])
  clear h1 h3
  go_enter Try.func31, Try.ntmps31
  go_upto_region 1 with fail
  refine wp_at HW.out ?_
  clear HW
  go_upto_region 2 with (first
    | (refine wpl_build (by rfl) _ _ rfl (numC a).toArray (by kernel_rfl) ?_)
    | (refine wpl_store_fld (by rfl) _ _ _ rfl W.heap.size 0 _ _ (numC a) rfl _ rfl rfl (Blk.new W _ _) (by simp [numC]) info_num NA.out ?_
       intro w1 bz1 bu1
       rw [put_all _ _ (by rfl)] at bz1
       have f1 := (Below.refl W.heap.size W).alloc (Nat.le_refl _) (.cells #[.int .i64 0, .int .i64 0, .int .i64 0, .int .i64 0, .int .i64 0, .int .i64 0, .int .i64 0, .bool false] 80)
       have f2 := f1.trans (below_but bu1 (Nat.le_refl _) f1.size)
       have xa2 := xa.to f2
       have xb2 := xb.to f2
       clear a1 a2 a3 a4 a5 a6 a7 a8 b1 b2 b3 b4 b5 b6 b7 b8 bu1 f1
       have b1 := xb2.c1
       have b2 := xb2.c2
       have b3 := xb2.c99
       have b4 := xb2.c100
       have b5 := xb2.c101
       have b6 := xb2.c102
       have b7 := xb2.c103
       have b8 := xb2.c104))
  go_upto_region 3 with (first
    | (refine wpl_build (by rfl) _ _ rfl (numC b).toArray (by kernel_rfl) ?_)
    | (refine wpl_store_fld (by rfl) _ _ _ rfl w1.heap.size 0 _ _ (numC b) rfl _ rfl rfl (Blk.new w1 _ _) (by simp [numC]) info_num NB.out ?_
       intro w3 bz3 bu3
       rw [put_all _ _ (by rfl)] at bz3
       have g1 := (Below.refl w1.heap.size w1).alloc (Nat.le_refl _) (.cells #[.int .i64 0, .int .i64 0, .int .i64 0, .int .i64 0, .int .i64 0, .int .i64 0, .int .i64 0, .bool false] 80)
       have g2 := g1.trans (below_but bu3 (Nat.le_refl _) g1.size)
       have f3 := f2.trans (g2.mono f2.size)
       have xa3 := xa2.to g2
       have xb3 := xb2.to g2
       have bz1' := bz1.to g2
       have f4 := hbw.trans (f3.mono hbw.size)
       have a0 := xa3.c0
       have b0 := xb3.c0
       clear b1 b2 b3 b4 b5 b6 b7 b8 bu3 g1 g2 bz1 xa2 xb2 f2))
  have tok11 : True := trivial
  have tok12 : True := trivial
  have tok13 : True := trivial
  have tok14 : True := trivial
  have tok15 : True := trivial
  have tok16 : True := trivial
  have tok17 : True := trivial
  have tok18 : True := trivial
  have tok19 : True := trivial
  have tok20 : True := trivial
  go_wp2_with (first
    | (have _t := tok11; refine wpl_load_fld (by rfl) _ _ rfl W.heap.size 0 rfl (numC a) _ bz1'.range Try.underlying80 rfl info_num ?_; clear tok11)
    | (have _t := tok12; refine wpl_load_fld (by rfl) _ _ rfl w1.heap.size 0 rfl (numC b) _ bz3.range Try.underlying80 rfl info_num ?_; clear tok12)
    | (have _t := tok13; refine wpl_load_fld (by rfl) _ _ rfl w.heap.size 3 rfl (B8 a.rlo) _ xa3.r3 Try.underlying26 rfl (info_hash ga.1) ?_; clear tok13)
    | (have _t := tok14; refine wpl_load_fld (by rfl) _ _ rfl w.heap.size 35 rfl (B8 a.rhi) _ xa3.r35 Try.underlying26 rfl (info_hash ga.2) ?_; clear tok14)
    | (have _t := tok15; refine wpl_load_fld (by rfl) _ _ rfl w.heap.size 67 rfl (B8 a.mid) _ xa3.r67 Try.underlying26 rfl (info_hash ga.3) ?_; clear tok15)
    | (have _t := tok16; refine wpl_load_fld (by rfl) _ _ rfl (w.heap.size + 1) 3 rfl (B8 b.rlo) _ xb3.r3 Try.underlying26 rfl (info_hash gb.1) ?_; clear tok16)
    | (have _t := tok17; refine wpl_load_fld (by rfl) _ _ rfl (w.heap.size + 1) 35 rfl (B8 b.rhi) _ xb3.r35 Try.underlying26 rfl (info_hash gb.2) ?_; clear tok17)
    | (have _t := tok18; refine wpl_load_fld (by rfl) _ _ rfl (w.heap.size + 1) 67 rfl (B8 b.mid) _ xb3.r67 Try.underlying26 rfl (info_hash gb.3) ?_; clear tok18)
    | (have _t := tok19; refine wpl_build (by rfl) _ _ rfl _ (by exact built_roots a ga) ?_; clear tok19)
    | (have _t := tok20; refine wpl_build (by rfl) _ _ rfl _ (by exact built_roots b gb) ?_; clear tok20))
  refine (equal_H A n c hs A2 n2 c2 hs2 _ ((sa.to f3)) HL.out (sb.to f3) HL2.out hn hn2).mono ?_
  rintro e w5 ⟨rfl, hb5⟩
  go_wp2_with fail
  go_ret
  exact ⟨(show Ending.returned (.bool (decide (hs = hs2))) = _ from by rw [HF.out]), f4.trans (hb5.mono f4.size)⟩
set_option maxRecDepth 100000 in
set_option maxHeartbeats 4000000 in
theorem same_r (A : Option Addr) (n c : Nat) (hs : List (List UInt8)) (a : GD) (A2 : Option Addr) (n2 c2 : Nat) (hs2 : List (List UInt8)) (b : GD) (w : World) (h : Sl w 32 A n (H8 hs)) (hl : ∀ x ∈ hs, x.length = 32) (h2 : Sl w 32 A2 n2 (H8 hs2)) (hl2 : ∀ x ∈ hs2, x.length = 32) (hn : n ≤ 4194304) (hn2 : n2 ≤ 4194304)
    (ga : GLen a) (gb : GLen b) (h1 : numEq a b) (h3 : ¬ rootEq a b) : Calls Try.prog 31 #[gval (.slice A n c) a, gval (.slice A2 n2 c2) b] w (RB (decide (a = b ∧ hs = hs2)) w) := by
  obtain ⟨W, HW, hbw, xa, xb⟩ : ∃ W, Hid (W = (w.alloc (.cells (gcells (.slice A n c) a).toArray 41)).alloc (.cells (gcells (.slice A2 n2 c2) b).toArray 41)) ∧ Below w.heap.size w W ∧
      GB 41 W w.heap.size (.slice A n c) a ∧ GB 41 W (w.heap.size + 1) (.slice A2 n2 c2) b := by
    refine ⟨_, rfl, ((Below.refl _ _).alloc (Nat.le_refl _) _).alloc (by simp) _, ⟨(Blk.new w (gcells (.slice A n c) a).toArray 41).to ((Below.refl _ _).alloc (Nat.le_refl _) _), ga⟩, ⟨?_, gb⟩⟩
    have := Blk.new (w.alloc (.cells (gcells (.slice A n c) a).toArray 41)) (gcells (.slice A2 n2 c2) b).toArray 41
    simpa using this
  have sa := h.to hbw
  have sb := h2.to hbw
  have hz := xb.lt
  have a1 := xa.c1
  have a2 := xa.c2
  have a3 := xa.c99
  have a4 := xa.c100
  have a5 := xa.c101
  have a6 := xa.c102
  have a7 := xa.c103
  have a8 := xa.c104
  have b1 := xb.c1
  have b2 := xb.c2
  have b3 := xb.c99
  have b4 := xb.c100
  have b5 := xb.c101
  have b6 := xb.c102
  have b7 := xb.c103
  have b8 := xb.c104
  have en := eq_numbers a b
  have er := eq_roots a b ga gb
  have na := numC_one a
  have nb := numC_one b
  have NA := Lib.hid na
  have NB := Lib.hid nb
  have HL := Lib.hid hl
  have HL2 := Lib.hid hl2
  clear na nb hl hl2
  unfold gval
  rw [decide_eq_true h1] at en
  rw [decide_eq_false h3] at er
  have HF : Hid (decide (a = b ∧ hs = hs2) = false) := decide_eq_false (fun he => h3 ((gd_eq a b).1 he.1).2)
  clear h1 h3
  go_enter Try.func31, Try.ntmps31
  go_upto_region 1 with fail
  refine wp_at HW.out ?_
  clear HW
  go_upto_region 2 with (first
    | (refine wpl_build (by rfl) _ _ rfl (numC a).toArray (by kernel_rfl) ?_)
    | (refine wpl_store_fld (by rfl) _ _ _ rfl W.heap.size 0 _ _ (numC a) rfl _ rfl rfl (Blk.new W _ _) (by simp [numC]) info_num NA.out ?_
       intro w1 bz1 bu1
       rw [put_all _ _ (by rfl)] at bz1
       have f1 := (Below.refl W.heap.size W).alloc (Nat.le_refl _) (.cells #[.int .i64 0, .int .i64 0, .int .i64 0, .int .i64 0, .int .i64 0, .int .i64 0, .int .i64 0, .bool false] 80)
       have f2 := f1.trans (below_but bu1 (Nat.le_refl _) f1.size)
       have xa2 := xa.to f2
       have xb2 := xb.to f2
       clear a1 a2 a3 a4 a5 a6 a7 a8 b1 b2 b3 b4 b5 b6 b7 b8 bu1 f1
       have b1 := xb2.c1
       have b2 := xb2.c2
       have b3 := xb2.c99
       have b4 := xb2.c100
       have b5 := xb2.c101
       have b6 := xb2.c102
       have b7 := xb2.c103
       have b8 := xb2.c104))
  go_upto_region 3 with (first
    | (refine wpl_build (by rfl) _ _ rfl (numC b).toArray (by kernel_rfl) ?_)
    | (refine wpl_store_fld (by rfl) _ _ _ rfl w1.heap.size 0 _ _ (numC b) rfl _ rfl rfl (Blk.new w1 _ _) (by simp [numC]) info_num NB.out ?_
       intro w3 bz3 bu3
       rw [put_all _ _ (by rfl)] at bz3
       have g1 := (Below.refl w1.heap.size w1).alloc (Nat.le_refl _) (.cells #[.int .i64 0, .int .i64 0, .int .i64 0, .int .i64 0, .int .i64 0, .int .i64 0, .int .i64 0, .bool false] 80)
       have g2 := g1.trans (below_but bu3 (Nat.le_refl _) g1.size)
       have f3 := f2.trans (g2.mono f2.size)
       have xa3 := xa2.to g2
       have xb3 := xb2.to g2
       have bz1' := bz1.to g2
       have f4 := hbw.trans (f3.mono hbw.size)
       have a0 := xa3.c0
       have b0 := xb3.c0
       clear b1 b2 b3 b4 b5 b6 b7 b8 bu3 g1 g2 bz1 xa2 xb2 f2))
  have tok11 : True := trivial
  have tok12 : True := trivial
  have tok13 : True := trivial
  have tok14 : True := trivial
  have tok15 : True := trivial
  have tok16 : True := trivial
  have tok17 : True := trivial
  have tok18 : True := trivial
  have tok19 : True := trivial
  have tok20 : True := trivial
  go_wp2_with (first
    | (have _t := tok11; refine wpl_load_fld (by rfl) _ _ rfl W.heap.size 0 rfl (numC a) _ bz1'.range Try.underlying80 rfl info_num ?_; clear tok11)
    | (have _t := tok12; refine wpl_load_fld (by rfl) _ _ rfl w1.heap.size 0 rfl (numC b) _ bz3.range Try.underlying80 rfl info_num ?_; clear tok12)
    | (have _t := tok13; refine wpl_load_fld (by rfl) _ _ rfl w.heap.size 3 rfl (B8 a.rlo) _ xa3.r3 Try.underlying26 rfl (info_hash ga.1) ?_; clear tok13)
    | (have _t := tok14; refine wpl_load_fld (by rfl) _ _ rfl w.heap.size 35 rfl (B8 a.rhi) _ xa3.r35 Try.underlying26 rfl (info_hash ga.2) ?_; clear tok14)
    | (have _t := tok15; refine wpl_load_fld (by rfl) _ _ rfl w.heap.size 67 rfl (B8 a.mid) _ xa3.r67 Try.underlying26 rfl (info_hash ga.3) ?_; clear tok15)
    | (have _t := tok16; refine wpl_load_fld (by rfl) _ _ rfl (w.heap.size + 1) 3 rfl (B8 b.rlo) _ xb3.r3 Try.underlying26 rfl (info_hash gb.1) ?_; clear tok16)
    | (have _t := tok17; refine wpl_load_fld (by rfl) _ _ rfl (w.heap.size + 1) 35 rfl (B8 b.rhi) _ xb3.r35 Try.underlying26 rfl (info_hash gb.2) ?_; clear tok17)
    | (have _t := tok18; refine wpl_load_fld (by rfl) _ _ rfl (w.heap.size + 1) 67 rfl (B8 b.mid) _ xb3.r67 Try.underlying26 rfl (info_hash gb.3) ?_; clear tok18)
    | (have _t := tok19; refine wpl_build (by rfl) _ _ rfl _ (by exact built_roots a ga) ?_; clear tok19)
    | (have _t := tok20; refine wpl_build (by rfl) _ _ rfl _ (by exact built_roots b gb) ?_; clear tok20))
  go_ret
  exact ⟨(show Ending.returned (.bool false) = _ from by rw [HF.out]), f4⟩
set_option maxRecDepth 100000 in
set_option maxHeartbeats 4000000 in
theorem same_n (A : Option Addr) (n c : Nat) (hs : List (List UInt8)) (a : GD) (A2 : Option Addr) (n2 c2 : Nat) (hs2 : List (List UInt8)) (b : GD) (w : World) (h : Sl w 32 A n (H8 hs)) (hl : ∀ x ∈ hs, x.length = 32) (h2 : Sl w 32 A2 n2 (H8 hs2)) (hl2 : ∀ x ∈ hs2, x.length = 32) (hn : n ≤ 4194304) (hn2 : n2 ≤ 4194304)
    (ga : GLen a) (gb : GLen b) (h1 : ¬ numEq a b) : Calls Try.prog 31 #[gval (.slice A n c) a, gval (.slice A2 n2 c2) b] w (RB (decide (a = b ∧ hs = hs2)) w) := by
  obtain ⟨W, HW, hbw, xa, xb⟩ : ∃ W, Hid (W = (w.alloc (.cells (gcells (.slice A n c) a).toArray 41)).alloc (.cells (gcells (.slice A2 n2 c2) b).toArray 41)) ∧ Below w.heap.size w W ∧
      GB 41 W w.heap.size (.slice A n c) a ∧ GB 41 W (w.heap.size + 1) (.slice A2 n2 c2) b := by
    refine ⟨_, rfl, ((Below.refl _ _).alloc (Nat.le_refl _) _).alloc (by simp) _, ⟨(Blk.new w (gcells (.slice A n c) a).toArray 41).to ((Below.refl _ _).alloc (Nat.le_refl _) _), ga⟩, ⟨?_, gb⟩⟩
    have := Blk.new (w.alloc (.cells (gcells (.slice A n c) a).toArray 41)) (gcells (.slice A2 n2 c2) b).toArray 41
    simpa using this
  have sa := h.to hbw
  have sb := h2.to hbw
  have hz := xb.lt
  have a1 := xa.c1
  have a2 := xa.c2
  have a3 := xa.c99
  have a4 := xa.c100
  have a5 := xa.c101
  have a6 := xa.c102
  have a7 := xa.c103
  have a8 := xa.c104
  have b1 := xb.c1
  have b2 := xb.c2
  have b3 := xb.c99
  have b4 := xb.c100
  have b5 := xb.c101
  have b6 := xb.c102
  have b7 := xb.c103
  have b8 := xb.c104
  have en := eq_numbers a b
  have er := eq_roots a b ga gb
  have na := numC_one a
  have nb := numC_one b
  have NA := Lib.hid na
  have NB := Lib.hid nb
  have HL := Lib.hid hl
  have HL2 := Lib.hid hl2
  clear na nb hl hl2
  unfold gval
  rw [decide_eq_false h1] at en
  have HF : Hid (decide (a = b ∧ hs = hs2) = false) := decide_eq_false (fun he => h1 ((gd_eq a b).1 he.1).1)
  clear h1
  go_enter Try.func31, Try.ntmps31
  go_upto_region 1 with fail
  refine wp_at HW.out ?_
  clear HW
  go_upto_region 2 with (first
    | (refine wpl_build (by rfl) _ _ rfl (numC a).toArray (by kernel_rfl) ?_)
    | (refine wpl_store_fld (by rfl) _ _ _ rfl W.heap.size 0 _ _ (numC a) rfl _ rfl rfl (Blk.new W _ _) (by simp [numC]) info_num NA.out ?_
       intro w1 bz1 bu1
       rw [put_all _ _ (by rfl)] at bz1
       have f1 := (Below.refl W.heap.size W).alloc (Nat.le_refl _) (.cells #[.int .i64 0, .int .i64 0, .int .i64 0, .int .i64 0, .int .i64 0, .int .i64 0, .int .i64 0, .bool false] 80)
       have f2 := f1.trans (below_but bu1 (Nat.le_refl _) f1.size)
       have xa2 := xa.to f2
       have xb2 := xb.to f2
       clear a1 a2 a3 a4 a5 a6 a7 a8 b1 b2 b3 b4 b5 b6 b7 b8 bu1 f1
       have b1 := xb2.c1
       have b2 := xb2.c2
       have b3 := xb2.c99
       have b4 := xb2.c100
       have b5 := xb2.c101
       have b6 := xb2.c102
       have b7 := xb2.c103
       have b8 := xb2.c104))
  go_upto_region 3 with (first
    | (refine wpl_build (by rfl) _ _ rfl (numC b).toArray (by kernel_rfl) ?_)
    | (refine wpl_store_fld (by rfl) _ _ _ rfl w1.heap.size 0 _ _ (numC b) rfl _ rfl rfl (Blk.new w1 _ _) (by simp [numC]) info_num NB.out ?_
       intro w3 bz3 bu3
       rw [put_all _ _ (by rfl)] at bz3
       have g1 := (Below.refl w1.heap.size w1).alloc (Nat.le_refl _) (.cells #[.int .i64 0, .int .i64 0, .int .i64 0, .int .i64 0, .int .i64 0, .int .i64 0, .int .i64 0, .bool false] 80)
       have g2 := g1.trans (below_but bu3 (Nat.le_refl _) g1.size)
       have f3 := f2.trans (g2.mono f2.size)
       have xa3 := xa2.to g2
       have xb3 := xb2.to g2
       have bz1' := bz1.to g2
       have f4 := hbw.trans (f3.mono hbw.size)
       have a0 := xa3.c0
       have b0 := xb3.c0
       clear b1 b2 b3 b4 b5 b6 b7 b8 bu3 g1 g2 bz1 xa2 xb2 f2))
  have tok11 : True := trivial
  have tok12 : True := trivial
  have tok13 : True := trivial
  have tok14 : True := trivial
  have tok15 : True := trivial
  have tok16 : True := trivial
  have tok17 : True := trivial
  have tok18 : True := trivial
  have tok19 : True := trivial
  have tok20 : True := trivial
  go_wp2_with (first
    | (have _t := tok11; refine wpl_load_fld (by rfl) _ _ rfl W.heap.size 0 rfl (numC a) _ bz1'.range Try.underlying80 rfl info_num ?_; clear tok11)
    | (have _t := tok12; refine wpl_load_fld (by rfl) _ _ rfl w1.heap.size 0 rfl (numC b) _ bz3.range Try.underlying80 rfl info_num ?_; clear tok12))
  go_ret
  exact ⟨(show Ending.returned (.bool false) = _ from by rw [HF.out]), f4⟩
theorem same_any (A : Option Addr) (n c : Nat) (hs : List (List UInt8)) (a : GD) (A2 : Option Addr) (n2 c2 : Nat) (hs2 : List (List UInt8)) (b : GD) (w : World) (h : Sl w 32 A n (H8 hs)) (hl : ∀ x ∈ hs, x.length = 32) (h2 : Sl w 32 A2 n2 (H8 hs2)) (hl2 : ∀ x ∈ hs2, x.length = 32) (hn : n ≤ 4194304) (hn2 : n2 ≤ 4194304)
    (ga : GLen a) (gb : GLen b) : Calls Try.prog 31 #[gval (.slice A n c) a, gval (.slice A2 n2 c2) b] w (RB (decide (a = b ∧ hs = hs2)) w) := by
  by_cases h1 : numEq a b
  · by_cases h3 : rootEq a b
    · exact same_e A n c hs a A2 n2 c2 hs2 b w h hl h2 hl2 hn hn2 ga gb h1 h3
    · exact same_r A n c hs a A2 n2 c2 hs2 b w h hl h2 hl2 hn hn2 ga gb h1 h3
  · exact same_n A n c hs a A2 n2 c2 hs2 b w h hl h2 hl2 hn hn2 ga gb h1
end Go.Proofs.Ytaaiembhdfgkjaa
