/- The texts of this claim, part L: words, plain laws, walks. -/
import Derived.Test.YtdopgooglicaiaaPartK
import Derived.Test.YtdopgooglicaiaaPartF
/- The walk of game.Same. -/
set_option linter.unusedSimpArgs false
set_option linter.unusedVariables false
namespace Go.Proofs.Ytdopgooglicaiaa
open Go.RowKit
set_option maxRecDepth 100000
theorem built_num (d : GD) : Try.prog.built 120 [(0, .int .i64 d.lo), (1, .int .i64 d.hi), (2, .int .i64 d.turn), (3, .int .i64 d.moves), (4, .int .i64 d.limit), (5, .int .i64 d.cl), (6, .int .i64 d.ref), (7, .bool d.won)] = some (numC d).toArray := by kernel_rfl
theorem numC_one (d : GD) : ∀ u ∈ numC d, u.oneCell' = true := by
  intro u hu
  simp only [numC, List.mem_cons, List.not_mem_nil, or_false] at hu
  rcases hu with rfl | rfl | rfl | rfl | rfl | rfl | rfl | rfl <;> rfl
theorem info_num : (Try.prog.info? 120).map (·.size) = some 8 := by kernel_rfl
set_option maxRecDepth 100000 in
set_option maxHeartbeats 4000000 in
theorem same_e (A : Option Addr) (n c : Nat) (hs : List (List UInt8)) (a : GD) (A2 : Option Addr) (n2 c2 : Nat) (hs2 : List (List UInt8)) (b : GD) (w : World) (h : Sl w 32 A n (H8 hs)) (hl : ∀ x ∈ hs, x.length = 32) (h2 : Sl w 32 A2 n2 (H8 hs2)) (hl2 : ∀ x ∈ hs2, x.length = 32) (hn : n ≤ 4194304) (hn2 : n2 ≤ 4194304)
    (ga : GLen a) (gb : GLen b) (h1 : numEq a b) (h3 : rootEq a b) : Calls Try.prog 72 #[gval (.slice A n c) a, gval (.slice A2 n2 c2) b] w (RB (decide (a = b ∧ hs = hs2)) w) := by
  obtain ⟨W, HW, hbw, xa, xb⟩ : ∃ W, Hid (W = (w.alloc (.cells (gcells (.slice A n c) a).toArray 42)).alloc (.cells (gcells (.slice A2 n2 c2) b).toArray 42)) ∧ Below w.heap.size w W ∧
      GB 42 W w.heap.size (.slice A n c) a ∧ GB 42 W (w.heap.size + 1) (.slice A2 n2 c2) b := by
    refine ⟨_, rfl, ((Below.refl _ _).alloc (Nat.le_refl _) _).alloc (by simp) _, ⟨(Blk.new w (gcells (.slice A n c) a).toArray 42).to ((Below.refl _ _).alloc (Nat.le_refl _) _), ga⟩, ⟨?_, gb⟩⟩
    have := Blk.new (w.alloc (.cells (gcells (.slice A n c) a).toArray 42)) (gcells (.slice A2 n2 c2) b).toArray 42
    simpa using this
  have sa := h.to hbw
  have sb := h2.to hbw
  have hz := xb.lt
  have a1 := xa.c1
  have a2 := xa.c2
  have a3 := xa.c99
  have a4 := xa.c100
  have a5 := xa.c101
  have a6 := xa.c102
  have a7 := xa.c103
  have a8 := xa.c104
  have b1 := xb.c1
  have b2 := xb.c2
  have b3 := xb.c99
  have b4 := xb.c100
  have b5 := xb.c101
  have b6 := xb.c102
  have b7 := xb.c103
  have b8 := xb.c104
  have en := eq_numbers a b
  have er := eq_roots a b ga gb
  have na := numC_one a
  have nb := numC_one b
  have NA := Lib.hid na
  have NB := Lib.hid nb
  have HL := Lib.hid hl
  have HL2 := Lib.hid hl2
  clear na nb hl hl2
  unfold gval
  rw [decide_eq_true h1] at en
  rw [decide_eq_true h3] at er
  have HF : Hid (decide (a = b ∧ hs = hs2) = decide (hs = hs2)) := (by
    show _ = _
    have hab := (gd_eq a b).2 ⟨h1, h3⟩
    simp [hab])
  clear h1 h3
  go_enter Try.func72, Try.ntmps72
  go_upto_region 1 with fail
  refine wp_at HW.out ?_
  clear HW
  go_upto_region 2 with (first
    | (refine wpl_build (by rfl) _ _ rfl (numC a).toArray (by kernel_rfl) ?_)
    | (refine wpl_store_fld (by rfl) _ _ _ rfl W.heap.size 0 _ _ (numC a) rfl _ rfl rfl (Blk.new W _ _) (by simp [numC]) info_num NA.out ?_
       intro w1 bz1 bu1
       rw [put_all _ _ (by rfl)] at bz1
       have f1 := (Below.refl W.heap.size W).alloc (Nat.le_refl _) (.cells #[.int .i64 0, .int .i64 0, .int .i64 0, .int .i64 0, .int .i64 0, .int .i64 0, .int .i64 0, .bool false] 120)
       have f2 := f1.trans (below_but bu1 (Nat.le_refl _) f1.size)
       have xa2 := xa.to f2
       have xb2 := xb.to f2
       clear a1 a2 a3 a4 a5 a6 a7 a8 b1 b2 b3 b4 b5 b6 b7 b8 bu1 f1
       have b1 := xb2.c1
       have b2 := xb2.c2
       have b3 := xb2.c99
       have b4 := xb2.c100
       have b5 := xb2.c101
       have b6 := xb2.c102
       have b7 := xb2.c103
       have b8 := xb2.c104))
  go_upto_region 3 with (first
    | (refine wpl_build (by rfl) _ _ rfl (numC b).toArray (by kernel_rfl) ?_)
    | (refine wpl_store_fld (by rfl) _ _ _ rfl w1.heap.size 0 _ _ (numC b) rfl _ rfl rfl (Blk.new w1 _ _) (by simp [numC]) info_num NB.out ?_
       intro w3 bz3 bu3
       rw [put_all _ _ (by rfl)] at bz3
       have g1 := (Below.refl w1.heap.size w1).alloc (Nat.le_refl _) (.cells #[.int .i64 0, .int .i64 0, .int .i64 0, .int .i64 0, .int .i64 0, .int .i64 0, .int .i64 0, .bool false] 120)
       have g2 := g1.trans (below_but bu3 (Nat.le_refl _) g1.size)
       have f3 := f2.trans (g2.mono f2.size)
       have xa3 := xa2.to g2
       have xb3 := xb2.to g2
       have bz1' := bz1.to g2
       have f4 := hbw.trans (f3.mono hbw.size)
       have a0 := xa3.c0
       have b0 := xb3.c0
       clear b1 b2 b3 b4 b5 b6 b7 b8 bu3 g1 g2 bz1 xa2 xb2 f2))
  have tok11 : True := trivial
  have tok12 : True := trivial
  have tok13 : True := trivial
  have tok14 : True := trivial
  have tok15 : True := trivial
  have tok16 : True := trivial
  have tok17 : True := trivial
  have tok18 : True := trivial
  have tok19 : True := trivial
  have tok20 : True := trivial
  go_wp2_with (first
    | (have _t := tok11; refine wpl_load_fld (by rfl) _ _ rfl W.heap.size 0 rfl (numC a) _ bz1'.range Try.underlying120 rfl info_num ?_; clear tok11)
    | (have _t := tok12; refine wpl_load_fld (by rfl) _ _ rfl w1.heap.size 0 rfl (numC b) _ bz3.range Try.underlying120 rfl info_num ?_; clear tok12)
    | (have _t := tok13; refine wpl_load_fld (by rfl) _ _ rfl w.heap.size 3 rfl (B8 a.rlo) _ xa3.r3 Try.underlying25 rfl (info_hash ga.1) ?_; clear tok13)
    | (have _t := tok14; refine wpl_load_fld (by rfl) _ _ rfl w.heap.size 35 rfl (B8 a.rhi) _ xa3.r35 Try.underlying25 rfl (info_hash ga.2) ?_; clear tok14)
    | (have _t := tok15; refine wpl_load_fld (by rfl) _ _ rfl w.heap.size 67 rfl (B8 a.mid) _ xa3.r67 Try.underlying25 rfl (info_hash ga.3) ?_; clear tok15)
    | (have _t := tok16; refine wpl_load_fld (by rfl) _ _ rfl (w.heap.size + 1) 3 rfl (B8 b.rlo) _ xb3.r3 Try.underlying25 rfl (info_hash gb.1) ?_; clear tok16)
    | (have _t := tok17; refine wpl_load_fld (by rfl) _ _ rfl (w.heap.size + 1) 35 rfl (B8 b.rhi) _ xb3.r35 Try.underlying25 rfl (info_hash gb.2) ?_; clear tok17)
    | (have _t := tok18; refine wpl_load_fld (by rfl) _ _ rfl (w.heap.size + 1) 67 rfl (B8 b.mid) _ xb3.r67 Try.underlying25 rfl (info_hash gb.3) ?_; clear tok18)
    | (have _t := tok19; refine wpl_build (by rfl) _ _ rfl _ (by exact built_roots a ga) ?_; clear tok19)
    | (have _t := tok20; refine wpl_build (by rfl) _ _ rfl _ (by exact built_roots b gb) ?_; clear tok20))
  refine (equal_H A n c hs A2 n2 c2 hs2 _ ((sa.to f3)) HL.out (sb.to f3) HL2.out hn hn2).mono ?_
  rintro e w5 ⟨rfl, hb5⟩
  go_wp2_with fail
  go_ret
  exact ⟨(show Ending.returned (.bool (decide (hs = hs2))) = _ from by rw [HF.out]), f4.trans (hb5.mono f4.size)⟩
set_option maxRecDepth 100000 in
set_option maxHeartbeats 4000000 in
theorem same_r (A : Option Addr) (n c : Nat) (hs : List (List UInt8)) (a : GD) (A2 : Option Addr) (n2 c2 : Nat) (hs2 : List (List UInt8)) (b : GD) (w : World) (h : Sl w 32 A n (H8 hs)) (hl : ∀ x ∈ hs, x.length = 32) (h2 : Sl w 32 A2 n2 (H8 hs2)) (hl2 : ∀ x ∈ hs2, x.length = 32) (hn : n ≤ 4194304) (hn2 : n2 ≤ 4194304)
    (ga : GLen a) (gb : GLen b) (h1 : numEq a b) (h3 : ¬ rootEq a b) : Calls Try.prog 72 #[gval (.slice A n c) a, gval (.slice A2 n2 c2) b] w (RB (decide (a = b ∧ hs = hs2)) w) := by
  obtain ⟨W, HW, hbw, xa, xb⟩ : ∃ W, Hid (W = (w.alloc (.cells (gcells (.slice A n c) a).toArray 42)).alloc (.cells (gcells (.slice A2 n2 c2) b).toArray 42)) ∧ Below w.heap.size w W ∧
      GB 42 W w.heap.size (.slice A n c) a ∧ GB 42 W (w.heap.size + 1) (.slice A2 n2 c2) b := by
    refine ⟨_, rfl, ((Below.refl _ _).alloc (Nat.le_refl _) _).alloc (by simp) _, ⟨(Blk.new w (gcells (.slice A n c) a).toArray 42).to ((Below.refl _ _).alloc (Nat.le_refl _) _), ga⟩, ⟨?_, gb⟩⟩
    have := Blk.new (w.alloc (.cells (gcells (.slice A n c) a).toArray 42)) (gcells (.slice A2 n2 c2) b).toArray 42
    simpa using this
  have sa := h.to hbw
  have sb := h2.to hbw
  have hz := xb.lt
  have a1 := xa.c1
  have a2 := xa.c2
  have a3 := xa.c99
  have a4 := xa.c100
  have a5 := xa.c101
  have a6 := xa.c102
  have a7 := xa.c103
  have a8 := xa.c104
  have b1 := xb.c1
  have b2 := xb.c2
  have b3 := xb.c99
  have b4 := xb.c100
  have b5 := xb.c101
  have b6 := xb.c102
  have b7 := xb.c103
  have b8 := xb.c104
  have en := eq_numbers a b
  have er := eq_roots a b ga gb
  have na := numC_one a
  have nb := numC_one b
  have NA := Lib.hid na
  have NB := Lib.hid nb
  have HL := Lib.hid hl
  have HL2 := Lib.hid hl2
  clear na nb hl hl2
  unfold gval
  rw [decide_eq_true h1] at en
  rw [decide_eq_false h3] at er
  have HF : Hid (decide (a = b ∧ hs = hs2) = false) := decide_eq_false (fun he => h3 ((gd_eq a b).1 he.1).2)
  clear h1 h3
  go_enter Try.func72, Try.ntmps72
  go_upto_region 1 with fail
  refine wp_at HW.out ?_
  clear HW
  go_upto_region 2 with (first
    | (refine wpl_build (by rfl) _ _ rfl (numC a).toArray (by kernel_rfl) ?_)
    | (refine wpl_store_fld (by rfl) _ _ _ rfl W.heap.size 0 _ _ (numC a) rfl _ rfl rfl (Blk.new W _ _) (by simp [numC]) info_num NA.out ?_
       intro w1 bz1 bu1
       rw [put_all _ _ (by rfl)] at bz1
       have f1 := (Below.refl W.heap.size W).alloc (Nat.le_refl _) (.cells #[.int .i64 0, .int .i64 0, .int .i64 0, .int .i64 0, .int .i64 0, .int .i64 0, .int .i64 0, .bool false] 120)
       have f2 := f1.trans (below_but bu1 (Nat.le_refl _) f1.size)
       have xa2 := xa.to f2
       have xb2 := xb.to f2
       clear a1 a2 a3 a4 a5 a6 a7 a8 b1 b2 b3 b4 b5 b6 b7 b8 bu1 f1
       have b1 := xb2.c1
       have b2 := xb2.c2
       have b3 := xb2.c99
       have b4 := xb2.c100
       have b5 := xb2.c101
       have b6 := xb2.c102
       have b7 := xb2.c103
       have b8 := xb2.c104))
  go_upto_region 3 with (first
    | (refine wpl_build (by rfl) _ _ rfl (numC b).toArray (by kernel_rfl) ?_)
    | (refine wpl_store_fld (by rfl) _ _ _ rfl w1.heap.size 0 _ _ (numC b) rfl _ rfl rfl (Blk.new w1 _ _) (by simp [numC]) info_num NB.out ?_
       intro w3 bz3 bu3
       rw [put_all _ _ (by rfl)] at bz3
       have g1 := (Below.refl w1.heap.size w1).alloc (Nat.le_refl _) (.cells #[.int .i64 0, .int .i64 0, .int .i64 0, .int .i64 0, .int .i64 0, .int .i64 0, .int .i64 0, .bool false] 120)
       have g2 := g1.trans (below_but bu3 (Nat.le_refl _) g1.size)
       have f3 := f2.trans (g2.mono f2.size)
       have xa3 := xa2.to g2
       have xb3 := xb2.to g2
       have bz1' := bz1.to g2
       have f4 := hbw.trans (f3.mono hbw.size)
       have a0 := xa3.c0
       have b0 := xb3.c0
       clear b1 b2 b3 b4 b5 b6 b7 b8 bu3 g1 g2 bz1 xa2 xb2 f2))
  have tok11 : True := trivial
  have tok12 : True := trivial
  have tok13 : True := trivial
  have tok14 : True := trivial
  have tok15 : True := trivial
  have tok16 : True := trivial
  have tok17 : True := trivial
  have tok18 : True := trivial
  have tok19 : True := trivial
  have tok20 : True := trivial
  go_wp2_with (first
    | (have _t := tok11; refine wpl_load_fld (by rfl) _ _ rfl W.heap.size 0 rfl (numC a) _ bz1'.range Try.underlying120 rfl info_num ?_; clear tok11)
    | (have _t := tok12; refine wpl_load_fld (by rfl) _ _ rfl w1.heap.size 0 rfl (numC b) _ bz3.range Try.underlying120 rfl info_num ?_; clear tok12)
    | (have _t := tok13; refine wpl_load_fld (by rfl) _ _ rfl w.heap.size 3 rfl (B8 a.rlo) _ xa3.r3 Try.underlying25 rfl (info_hash ga.1) ?_; clear tok13)
    | (have _t := tok14; refine wpl_load_fld (by rfl) _ _ rfl w.heap.size 35 rfl (B8 a.rhi) _ xa3.r35 Try.underlying25 rfl (info_hash ga.2) ?_; clear tok14)
    | (have _t := tok15; refine wpl_load_fld (by rfl) _ _ rfl w.heap.size 67 rfl (B8 a.mid) _ xa3.r67 Try.underlying25 rfl (info_hash ga.3) ?_; clear tok15)
    | (have _t := tok16; refine wpl_load_fld (by rfl) _ _ rfl (w.heap.size + 1) 3 rfl (B8 b.rlo) _ xb3.r3 Try.underlying25 rfl (info_hash gb.1) ?_; clear tok16)
    | (have _t := tok17; refine wpl_load_fld (by rfl) _ _ rfl (w.heap.size + 1) 35 rfl (B8 b.rhi) _ xb3.r35 Try.underlying25 rfl (info_hash gb.2) ?_; clear tok17)
    | (have _t := tok18; refine wpl_load_fld (by rfl) _ _ rfl (w.heap.size + 1) 67 rfl (B8 b.mid) _ xb3.r67 Try.underlying25 rfl (info_hash gb.3) ?_; clear tok18)
    | (have _t := tok19; refine wpl_build (by rfl) _ _ rfl _ (by exact built_roots a ga) ?_; clear tok19)
    | (have _t := tok20; refine wpl_build (by rfl) _ _ rfl _ (by exact built_roots b gb) ?_; clear tok20))
  go_ret
  exact ⟨(show Ending.returned (.bool false) = _ from by rw [HF.out]), f4⟩
set_option maxRecDepth 100000 in
set_option maxHeartbeats 4000000 in
theorem same_n (A : Option Addr) (n c : Nat) (hs : List (List UInt8)) (a : GD) (A2 : Option Addr) (n2 c2 : Nat) (hs2 : List (List UInt8)) (b : GD) (w : World) (h : Sl w 32 A n (H8 hs)) (hl : ∀ x ∈ hs, x.length = 32) (h2 : Sl w 32 A2 n2 (H8 hs2)) (hl2 : ∀ x ∈ hs2, x.length = 32) (hn : n ≤ 4194304) (hn2 : n2 ≤ 4194304)
    (ga : GLen a) (gb : GLen b) (h1 : ¬ numEq a b) : Calls Try.prog 72 #[gval (.slice A n c) a, gval (.slice A2 n2 c2) b] w (RB (decide (a = b ∧ hs = hs2)) w) := by
  obtain ⟨W, HW, hbw, xa, xb⟩ : ∃ W, Hid (W = (w.alloc (.cells (gcells (.slice A n c) a).toArray 42)).alloc (.cells (gcells (.slice A2 n2 c2) b).toArray 42)) ∧ Below w.heap.size w W ∧
      GB 42 W w.heap.size (.slice A n c) a ∧ GB 42 W (w.heap.size + 1) (.slice A2 n2 c2) b := by
    refine ⟨_, rfl, ((Below.refl _ _).alloc (Nat.le_refl _) _).alloc (by simp) _, ⟨(Blk.new w (gcells (.slice A n c) a).toArray 42).to ((Below.refl _ _).alloc (Nat.le_refl _) _), ga⟩, ⟨?_, gb⟩⟩
    have := Blk.new (w.alloc (.cells (gcells (.slice A n c) a).toArray 42)) (gcells (.slice A2 n2 c2) b).toArray 42
    simpa using this
  have sa := h.to hbw
  have sb := h2.to hbw
  have hz := xb.lt
  have a1 := xa.c1
  have a2 := xa.c2
  have a3 := xa.c99
  have a4 := xa.c100
  have a5 := xa.c101
  have a6 := xa.c102
  have a7 := xa.c103
  have a8 := xa.c104
  have b1 := xb.c1
  have b2 := xb.c2
  have b3 := xb.c99
  have b4 := xb.c100
  have b5 := xb.c101
  have b6 := xb.c102
  have b7 := xb.c103
  have b8 := xb.c104
  have en := eq_numbers a b
  have er := eq_roots a b ga gb
  have na := numC_one a
  have nb := numC_one b
  have NA := Lib.hid na
  have NB := Lib.hid nb
  have HL := Lib.hid hl
  have HL2 := Lib.hid hl2
  clear na nb hl hl2
  unfold gval
  rw [decide_eq_false h1] at en
  have HF : Hid (decide (a = b ∧ hs = hs2) = false) := decide_eq_false (fun he => h1 ((gd_eq a b).1 he.1).1)
  clear h1
  go_enter Try.func72, Try.ntmps72
  go_upto_region 1 with fail
  refine wp_at HW.out ?_
  clear HW
  go_upto_region 2 with (first
    | (refine wpl_build (by rfl) _ _ rfl (numC a).toArray (by kernel_rfl) ?_)
    | (refine wpl_store_fld (by rfl) _ _ _ rfl W.heap.size 0 _ _ (numC a) rfl _ rfl rfl (Blk.new W _ _) (by simp [numC]) info_num NA.out ?_
       intro w1 bz1 bu1
       rw [put_all _ _ (by rfl)] at bz1
       have f1 := (Below.refl W.heap.size W).alloc (Nat.le_refl _) (.cells #[.int .i64 0, .int .i64 0, .int .i64 0, .int .i64 0, .int .i64 0, .int .i64 0, .int .i64 0, .bool false] 120)
       have f2 := f1.trans (below_but bu1 (Nat.le_refl _) f1.size)
       have xa2 := xa.to f2
       have xb2 := xb.to f2
       clear a1 a2 a3 a4 a5 a6 a7 a8 b1 b2 b3 b4 b5 b6 b7 b8 bu1 f1
       have b1 := xb2.c1
       have b2 := xb2.c2
       have b3 := xb2.c99
       have b4 := xb2.c100
       have b5 := xb2.c101
       have b6 := xb2.c102
       have b7 := xb2.c103
       have b8 := xb2.c104))
  go_upto_region 3 with (first
    | (refine wpl_build (by rfl) _ _ rfl (numC b).toArray (by kernel_rfl) ?_)
    | (refine wpl_store_fld (by rfl) _ _ _ rfl w1.heap.size 0 _ _ (numC b) rfl _ rfl rfl (Blk.new w1 _ _) (by simp [numC]) info_num NB.out ?_
       intro w3 bz3 bu3
       rw [put_all _ _ (by rfl)] at bz3
       have g1 := (Below.refl w1.heap.size w1).alloc (Nat.le_refl _) (.cells #[.int .i64 0, .int .i64 0, .int .i64 0, .int .i64 0, .int .i64 0, .int .i64 0, .int .i64 0, .bool false] 120)
       have g2 := g1.trans (below_but bu3 (Nat.le_refl _) g1.size)
       have f3 := f2.trans (g2.mono f2.size)
       have xa3 := xa2.to g2
       have xb3 := xb2.to g2
       have bz1' := bz1.to g2
       have f4 := hbw.trans (f3.mono hbw.size)
       have a0 := xa3.c0
       have b0 := xb3.c0
       clear b1 b2 b3 b4 b5 b6 b7 b8 bu3 g1 g2 bz1 xa2 xb2 f2))
  have tok11 : True := trivial
  have tok12 : True := trivial
  have tok13 : True := trivial
  have tok14 : True := trivial
  have tok15 : True := trivial
  have tok16 : True := trivial
  have tok17 : True := trivial
  have tok18 : True := trivial
  have tok19 : True := trivial
  have tok20 : True := trivial
  go_wp2_with (first
    | (have _t := tok11; refine wpl_load_fld (by rfl) _ _ rfl W.heap.size 0 rfl (numC a) _ bz1'.range Try.underlying120 rfl info_num ?_; clear tok11)
    | (have _t := tok12; refine wpl_load_fld (by rfl) _ _ rfl w1.heap.size 0 rfl (numC b) _ bz3.range Try.underlying120 rfl info_num ?_; clear tok12))
  go_ret
  exact ⟨(show Ending.returned (.bool false) = _ from by rw [HF.out]), f4⟩
theorem same_any (A : Option Addr) (n c : Nat) (hs : List (List UInt8)) (a : GD) (A2 : Option Addr) (n2 c2 : Nat) (hs2 : List (List UInt8)) (b : GD) (w : World) (h : Sl w 32 A n (H8 hs)) (hl : ∀ x ∈ hs, x.length = 32) (h2 : Sl w 32 A2 n2 (H8 hs2)) (hl2 : ∀ x ∈ hs2, x.length = 32) (hn : n ≤ 4194304) (hn2 : n2 ≤ 4194304)
    (ga : GLen a) (gb : GLen b) : Calls Try.prog 72 #[gval (.slice A n c) a, gval (.slice A2 n2 c2) b] w (RB (decide (a = b ∧ hs = hs2)) w) := by
  by_cases h1 : numEq a b
  · by_cases h3 : rootEq a b
    · exact same_e A n c hs a A2 n2 c2 hs2 b w h hl h2 hl2 hn hn2 ga gb h1 h3
    · exact same_r A n c hs a A2 n2 c2 hs2 b w h hl h2 hl2 hn hn2 ga gb h1 h3
  · exact same_n A n c hs a A2 n2 c2 hs2 b w h hl h2 hl2 hn hn2 ga gb h1
end Go.Proofs.Ytdopgooglicaiaa
/- Walks: two courts that read as one are the same. -/
set_option linter.unusedSimpArgs false
set_option linter.unusedVariables false
namespace Go.Proofs.Ytdopgooglicaiaa
open Go.RowKit
set_option maxRecDepth 100000
set_option maxRecDepth 100000 in
set_option maxHeartbeats 2000000 in
theorem sameS_one (v1 v2 : Value) (s : SU) (hs : s.ok) (w : World) (h1 : HsX [] w v1 s.hs) (h2 : HsX [] w v2 s.hs) :
    Calls Try.prog 71 #[.agg (suF (v1, s)).toArray, .agg (suF (v2, s)).toArray] w (RB true w) := by
  obtain ⟨A, n, c, rfl, sl, hn, _, _⟩ := h1
  obtain ⟨A2, n2, c2, rfl, sl2, hn2, _, _⟩ := h2
  obtain ⟨W, HW, hbw, ba, bb⟩ : ∃ W, Hid (W = (w.alloc (.cells (suF (.slice A n c, s)).toArray 44)).alloc (.cells (suF (.slice A2 n2 c2, s)).toArray 44)) ∧ Below w.heap.size w W ∧
      Blk W w.heap.size 44 (suF (.slice A n c, s)) ∧ Blk W (w.heap.size + 1) 44 (suF (.slice A2 n2 c2, s)) := by
    refine ⟨_, rfl, ((Below.refl _ _).alloc (Nat.le_refl _) _).alloc (by simp) _, ?_, ?_⟩
    · exact (Blk.new w (suF (.slice A n c, s)).toArray 44).to ((Below.refl _ _).alloc (Nat.le_refl _) _)
    · have := Blk.new (w.alloc (.cells (suF (.slice A n c, s)).toArray 44)) (suF (.slice A2 n2 c2, s)).toArray 44
      rw [show (w.alloc (.cells (suF (.slice A n c, s)).toArray 44)).heap.size = w.heap.size + 1 from by simp] at this
      exact this
  have HS := Lib.hid hs
  have slW := sl.to hbw
  have slW2 := sl2.to hbw
  have ka : W.cell? ⟨w.heap.size, 0, none⟩ = some (.int .i64 s.by_) := by rw [ba.cell]; exact su_by
  have kb : W.cell? ⟨w.heap.size + 1, 0, none⟩ = some (.int .i64 s.by_) := by rw [bb.cell]; exact su_by
  have ra := ba.sub 1 (gcells (.slice A n c) s.g) su_g
  have rb := bb.sub 1 (gcells (.slice A2 n2 c2) s.g) su_g
  have IG : Hid ((Try.prog.info? 42).map (·.size) = some (gcells (.slice A n c) s.g).length) := (show _ = _ by rw [gcells_len hs.g]; exact info_g)
  have IG2 : Hid ((Try.prog.info? 42).map (·.size) = some (gcells (.slice A2 n2 c2) s.g).length) := (show _ = _ by rw [gcells_len hs.g]; exact info_g)
  have hn4 := hs.n
  clear hs sl sl2
  go_enter Try.func71, Try.ntmps71
  go_upto_region 1 with fail
  refine wp_at HW.out ?_
  clear HW
  go_wp2_with (first
    | (refine wpl_load_fld (by rfl) _ _ rfl w.heap.size 1 rfl (gcells (.slice A n c) s.g) _ ra Try.underlying42 rfl IG.out ?_)
    | (refine wpl_load_fld (by rfl) _ _ rfl (w.heap.size + 1) 1 rfl (gcells (.slice A2 n2 c2) s.g) _ rb Try.underlying42 rfl IG2.out ?_))
  refine (same_any A n c s.hs s.g A2 n2 c2 s.hs s.g W slW HS.out.hs slW2 HS.out.hs (by omega) (by omega) HS.out.g HS.out.g).mono ?_
  rintro e w1 ⟨rfl, hb1⟩
  rw [decide_eq_true ⟨rfl, rfl⟩]
  go_wp2_with fail
  go_ret
  exact ⟨rfl, hbw.trans (hb1.mono hbw.size)⟩
set_option maxRecDepth 100000 in
set_option maxHeartbeats 4000000 in
theorem eqSuits_any (v1 v2 : Value) (ss : List SU) (hok : ∀ s ∈ ss, s.ok) (w : World) (h1 : SuX [] w v1 ss) (h2 : SuX [] w v2 ss) (hlen : ss.length ≤ 4096) :
    Calls Try.prog 70 #[v1, v2, .func (.func 71) #[] #[]] w (RB true w) := by
  obtain ⟨A, n, c, l, rfl, sl, hm, hn, _, _, hh⟩ := h1
  obtain ⟨A2, n2, c2, l2, rfl, sl2, hm2, hn2, _, _, hh2⟩ := h2
  have hl : ss.length = n := by rw [← hm, List.length_map]; exact hn
  have hl2 : ss.length = n2 := by rw [← hm2, List.length_map]; exact hn2
  obtain rfl : n2 = n := by omega
  have hnm : n2 ≤ 4096 := by omega
  have HOK := Lib.hid hok
  have HM := Lib.hid hm
  have HM2 := Lib.hid hm2
  have HH := Lib.hid hh
  have HH2 := Lib.hid hh2
  have HN := Lib.hid hl
  have hr1 : ∀ a ∈ l, (suF a).length = 106 := fun a ha => suF_len (hok a.2 (mem_snd hm ha)).g
  have hr2 : ∀ a ∈ l2, (suF a).length = 106 := fun a ha => suF_len (hok a.2 (mem_snd hm2 ha)).g
  have HR1 := Lib.hid hr1
  have HR2 := Lib.hid hr2
  clear hok hm hm2 hh hh2 hr1 hr2 hn hn2 hl hl2 hlen
  go_enter Try.func70, Try.ntmps70
  go_wp2_with fail
  go_loopw [17] (fun k wr => ∃ q : Nat, k = .int .i64 (q : Int) ∧ q ≤ n2 ∧ Below w.heap.size w wr) (fun k _ => n2 - (intOf k).toNat)
  case atStart => exact ⟨0, rfl, Nat.zero_le _, Below.refl _ _⟩
  case round =>
    obtain ⟨q, rfl, hq, hf⟩ := hrel
    by_cases hlt : q < n2
    · have t1 : (q : Int) < (n2 : Int) := by omega
      obtain ⟨s, hs⟩ : ∃ s, ss[q]? = some s := ⟨_, List.getElem?_eq_getElem (by rw [HN.out]; exact hlt)⟩
      have HSO : Hid s.ok := HOK.out s (List.mem_of_getElem? hs)
      obtain ⟨u1, hu1⟩ := snd_get HM.out hs
      obtain ⟨u2, hu2⟩ := snd_get HM2.out hs
      have HX1 := HH.out (u1, s) (List.mem_of_getElem? hu1)
      have HX2 := HH2.out (u2, s) (List.mem_of_getElem? hu2)
      obtain ⟨b1, o1, rfl, hb1⟩ := sl.some_ (by omega)
      obtain ⟨b2, o2, rfl, hb2⟩ := sl2.some_ (by omega)
      have slr := sl.to hf
      have slr2 := sl2.to hf
      have rg1 : wr.rangeAt b1 (o1 + q * 106) (suF (u1, s)) := fun j v hv => by
        rw [Nat.add_assoc]
        refine slr.cell ?_
        have hj : j < 106 := by have := (List.getElem?_eq_some_iff.1 hv).1; rw [suF_len (p := (u1, s)) HSO.out.g] at this; exact this
        have := rows_get l HR1.out [] hu1 hj
        rw [List.append_nil] at this
        rw [this]
        exact hv
      have rg2 : wr.rangeAt b2 (o2 + q * 106) (suF (u2, s)) := fun j v hv => by
        rw [Nat.add_assoc]
        refine slr2.cell ?_
        have hj : j < 106 := by have := (List.getElem?_eq_some_iff.1 hv).1; rw [suF_len (p := (u2, s)) HSO.out.g] at this; exact this
        have := rows_get l2 HR2.out [] hu2 hj
        rw [List.append_nil] at this
        rw [this]
        exact hv
      have I1 := Lib.hid (info_su (p := (u1, s)) HSO.out.g)
      have I2 := Lib.hid (info_su (p := (u2, s)) HSO.out.g)
      have o1x := HX1.one
      have o2x := HX2.one
      have tok1 : True := trivial
      have tok2 : True := trivial
      go_wp2_with (first
        | (have _t := tok1
           refine wpl_load_fld (by rfl) _ _ rfl b1 (o1 + q * 106) rfl (suF (u1, s)) _ rg1 Try.underlying44 rfl I1.out ?_
           clear tok1)
        | (refine wpl_store_new rfl _ _ _ rfl 44 _ (suF (u1, s)) rfl rfl (by rw [suF_len (p := (u1, s)) HSO.out.g]; rfl) I1.out (suF_one o1x) ?_
           intro w4 bX hbX
           simp only [Act.put, List.setIfInBounds_toArray, List.set_cons_zero, List.set_cons_succ]
           have rg3 : w4.rangeAt b2 (o2 + q * 106) (suF (u2, s)) := range_keep rg2 (hbX.block b2 (by have := hf.size; omega)))
        | (have _t := tok2
           refine wpl_load_fld (by rfl) _ _ rfl b2 (o2 + q * 106) rfl (suF (u2, s)) _ rg3 Try.underlying44 rfl I2.out ?_
           clear tok2)
        | (refine wpl_store_new rfl _ _ _ rfl 44 _ (suF (u2, s)) rfl rfl (by rw [suF_len (p := (u2, s)) HSO.out.g]; rfl) I2.out (suF_one o2x) ?_
           intro w5 bY hbY
           simp only [Act.put, List.setIfInBounds_toArray, List.set_cons_zero, List.set_cons_succ]
           have bX5 := bX.to hbY)
        | (refine wpl_load_fld (by rfl) _ _ rfl wr.heap.size 0 rfl (suF (u1, s)) _ bX5.range Try.underlying44 rfl I1.out ?_)
        | (refine wpl_load_fld (by rfl) _ _ rfl w4.heap.size 0 rfl (suF (u2, s)) _ bY.range Try.underlying44 rfl I2.out ?_))
      have f4 := hf.trans (hbX.mono hf.size)
      have f5 := f4.trans (hbY.mono f4.size)
      refine (sameS_one u1 u2 s HSO.out w5 (HX1.to f5) (HX2.to f5)).mono ?_
      rintro e w6 ⟨rfl, hb6⟩
      have f6 := f5.trans (hb6.mono f5.size)
      go_wp2_with fail
      go_roundw
      case rel => exact ⟨q + 1, by go_num, by omega, f6⟩
      case measure => simp [intOf]; omega
    · obtain rfl : q = n2 := by omega
      have t1 : ¬ (q : Int) < (q : Int) := by omega
      go_wp2_with fail
      go_ret
      exact ⟨rfl, hf⟩
set_option maxRecDepth 100000 in
set_option maxHeartbeats 4000000 in
theorem sameCl_one (v1 v2 : Value) (x : CL) (hx : x.ok) (w : World) (h1 : SuX [] w v1 x.suits) (h2 : SuX [] w v2 x.suits) :
    Calls Try.prog 43 #[.agg (clF (v1, x)).toArray, .agg (clF (v2, x)).toArray] w (RB true w) := by
  obtain ⟨W, HW, hbw, ba, bb⟩ : ∃ W, Hid (W = (w.alloc (.cells (clF (v1, x)).toArray 39)).alloc (.cells (clF (v2, x)).toArray 39)) ∧ Below w.heap.size w W ∧
      Blk W w.heap.size 39 (clF (v1, x)) ∧ Blk W (w.heap.size + 1) 39 (clF (v2, x)) := by
    refine ⟨_, rfl, ((Below.refl _ _).alloc (Nat.le_refl _) _).alloc (by simp) _, ?_, ?_⟩
    · exact (Blk.new w (clF (v1, x)).toArray 39).to ((Below.refl _ _).alloc (Nat.le_refl _) _)
    · have := Blk.new (w.alloc (.cells (clF (v1, x)).toArray 39)) (clF (v2, x)).toArray 39
      rw [show (w.alloc (.cells (clF (v1, x)).toArray 39)).heap.size = w.heap.size + 1 from by simp] at this
      exact this
  have HX := Lib.hid hx
  have h1W := h1.to hbw
  have h2W := h2.to hbw
  have ka0 : W.cell? ⟨w.heap.size, 0, none⟩ = some (.int .i64 x.by_) := by rw [ba.cell]; exact cl_by
  have ka1 : W.cell? ⟨w.heap.size, 1, none⟩ = some (.int .i64 x.n) := by rw [ba.cell]; exact cl_n
  have ka2 : W.cell? ⟨w.heap.size, 2, none⟩ = some (.int .i64 x.at_) := by rw [ba.cell]; exact cl_at
  have ka3 : W.cell? ⟨w.heap.size, 3, none⟩ = some (.int .i64 x.st) := by rw [ba.cell]; exact cl_st
  have ka5 : W.cell? ⟨w.heap.size, 36, none⟩ = some v1 := by rw [ba.cell]; exact cl_suits hx.root
  have kb0 : W.cell? ⟨w.heap.size + 1, 0, none⟩ = some (.int .i64 x.by_) := by rw [bb.cell]; exact cl_by
  have kb1 : W.cell? ⟨w.heap.size + 1, 1, none⟩ = some (.int .i64 x.n) := by rw [bb.cell]; exact cl_n
  have kb2 : W.cell? ⟨w.heap.size + 1, 2, none⟩ = some (.int .i64 x.at_) := by rw [bb.cell]; exact cl_at
  have kb3 : W.cell? ⟨w.heap.size + 1, 3, none⟩ = some (.int .i64 x.st) := by rw [bb.cell]; exact cl_st
  have kb5 : W.cell? ⟨w.heap.size + 1, 36, none⟩ = some v2 := by rw [bb.cell]; exact cl_suits hx.root
  have ra := ba.sub 4 (B8 x.root) cl_root
  have rb := bb.sub 4 (B8 x.root) cl_root
  have eq1 : ∀ w', (Op.equalIn 10000 25 (.agg (B8 x.root).toArray) (.agg (B8 x.root).toArray)).run Try.prog w' = .ok true w' := fun w' => by
    rw [eq_hash x.root x.root hx.root hx.root w']
    simp
  clear hx h1 h2
  go_enter Try.func43, Try.ntmps43
  go_upto_region 1 with fail
  refine wp_at HW.out ?_
  clear HW
  go_wp2_with (first
    | (refine wpl_load_fld (by rfl) _ _ rfl w.heap.size 4 rfl (B8 x.root) _ ra Try.underlying25 rfl (info_hash HX.out.root) ?_)
    | (refine wpl_load_fld (by rfl) _ _ rfl (w.heap.size + 1) 4 rfl (B8 x.root) _ rb Try.underlying25 rfl (info_hash HX.out.root) ?_))
  refine (eqSuits_any v1 v2 x.suits HX.out.suits W h1W h2W HX.out.n).mono ?_
  rintro e w1 ⟨rfl, hb1⟩
  go_wp2_with fail
  go_ret
  exact ⟨rfl, hbw.trans (hb1.mono hbw.size)⟩
set_option maxRecDepth 100000 in
set_option maxHeartbeats 4000000 in
theorem eqClaims_any (v1 v2 : Value) (ss : List CL) (hok : ∀ s ∈ ss, s.ok) (w : World) (h1 : ClX [] w v1 ss) (h2 : ClX [] w v2 ss) (hlen : ss.length ≤ 4096) :
    Calls Try.prog 42 #[v1, v2, .func (.func 43) #[] #[]] w (RB true w) := by
  obtain ⟨A, n, c, l, rfl, sl, hm, hn, _, _, hh⟩ := h1
  obtain ⟨A2, n2, c2, l2, rfl, sl2, hm2, hn2, _, _, hh2⟩ := h2
  have hl : ss.length = n := by rw [← hm, List.length_map]; exact hn
  have hl2 : ss.length = n2 := by rw [← hm2, List.length_map]; exact hn2
  obtain rfl : n2 = n := by omega
  have hnm : n2 ≤ 4096 := by omega
  have HOK := Lib.hid hok
  have HM := Lib.hid hm
  have HM2 := Lib.hid hm2
  have HH := Lib.hid hh
  have HH2 := Lib.hid hh2
  have HN := Lib.hid hl
  have hr1 : ∀ a ∈ l, (clF a).length = 37 := fun a ha => clF_len (hok a.2 (mem_snd hm ha)).root
  have hr2 : ∀ a ∈ l2, (clF a).length = 37 := fun a ha => clF_len (hok a.2 (mem_snd hm2 ha)).root
  have HR1 := Lib.hid hr1
  have HR2 := Lib.hid hr2
  clear hok hm hm2 hh hh2 hr1 hr2 hn hn2 hl hl2 hlen
  go_enter Try.func42, Try.ntmps42
  go_wp2_with fail
  go_loopw [17] (fun k wr => ∃ q : Nat, k = .int .i64 (q : Int) ∧ q ≤ n2 ∧ Below w.heap.size w wr) (fun k _ => n2 - (intOf k).toNat)
  case atStart => exact ⟨0, rfl, Nat.zero_le _, Below.refl _ _⟩
  case round =>
    obtain ⟨q, rfl, hq, hf⟩ := hrel
    by_cases hlt : q < n2
    · have t1 : (q : Int) < (n2 : Int) := by omega
      obtain ⟨s, hs⟩ : ∃ s, ss[q]? = some s := ⟨_, List.getElem?_eq_getElem (by rw [HN.out]; exact hlt)⟩
      have HSO : Hid s.ok := HOK.out s (List.mem_of_getElem? hs)
      obtain ⟨u1, hu1⟩ := snd_get HM.out hs
      obtain ⟨u2, hu2⟩ := snd_get HM2.out hs
      have HX1 := HH.out (u1, s) (List.mem_of_getElem? hu1)
      have HX2 := HH2.out (u2, s) (List.mem_of_getElem? hu2)
      obtain ⟨b1, o1, rfl, hb1⟩ := sl.some_ (by omega)
      obtain ⟨b2, o2, rfl, hb2⟩ := sl2.some_ (by omega)
      have slr := sl.to hf
      have slr2 := sl2.to hf
      have rg1 : wr.rangeAt b1 (o1 + q * 37) (clF (u1, s)) := fun j v hv => by
        rw [Nat.add_assoc]
        refine slr.cell ?_
        have hj : j < 37 := by have := (List.getElem?_eq_some_iff.1 hv).1; rw [clF_len (p := (u1, s)) HSO.out.root] at this; exact this
        have := rows_get l HR1.out [] hu1 hj
        rw [List.append_nil] at this
        rw [this]
        exact hv
      have rg2 : wr.rangeAt b2 (o2 + q * 37) (clF (u2, s)) := fun j v hv => by
        rw [Nat.add_assoc]
        refine slr2.cell ?_
        have hj : j < 37 := by have := (List.getElem?_eq_some_iff.1 hv).1; rw [clF_len (p := (u2, s)) HSO.out.root] at this; exact this
        have := rows_get l2 HR2.out [] hu2 hj
        rw [List.append_nil] at this
        rw [this]
        exact hv
      have I1 := Lib.hid (info_cl (p := (u1, s)) HSO.out.root)
      have I2 := Lib.hid (info_cl (p := (u2, s)) HSO.out.root)
      have o1x := HX1.one
      have o2x := HX2.one
      have tok1 : True := trivial
      have tok2 : True := trivial
      go_wp2_with (first
        | (have _t := tok1
           refine wpl_load_fld (by rfl) _ _ rfl b1 (o1 + q * 37) rfl (clF (u1, s)) _ rg1 Try.underlying39 rfl I1.out ?_
           clear tok1)
        | (refine wpl_store_new rfl _ _ _ rfl 39 _ (clF (u1, s)) rfl rfl (by rw [clF_len (p := (u1, s)) HSO.out.root]; rfl) I1.out (clF_one o1x) ?_
           intro w4 bX hbX
           simp only [Act.put, List.setIfInBounds_toArray, List.set_cons_zero, List.set_cons_succ]
           have rg3 : w4.rangeAt b2 (o2 + q * 37) (clF (u2, s)) := range_keep rg2 (hbX.block b2 (by have := hf.size; omega)))
        | (have _t := tok2
           refine wpl_load_fld (by rfl) _ _ rfl b2 (o2 + q * 37) rfl (clF (u2, s)) _ rg3 Try.underlying39 rfl I2.out ?_
           clear tok2)
        | (refine wpl_store_new rfl _ _ _ rfl 39 _ (clF (u2, s)) rfl rfl (by rw [clF_len (p := (u2, s)) HSO.out.root]; rfl) I2.out (clF_one o2x) ?_
           intro w5 bY hbY
           simp only [Act.put, List.setIfInBounds_toArray, List.set_cons_zero, List.set_cons_succ]
           have bX5 := bX.to hbY)
        | (refine wpl_load_fld (by rfl) _ _ rfl wr.heap.size 0 rfl (clF (u1, s)) _ bX5.range Try.underlying39 rfl I1.out ?_)
        | (refine wpl_load_fld (by rfl) _ _ rfl w4.heap.size 0 rfl (clF (u2, s)) _ bY.range Try.underlying39 rfl I2.out ?_))
      have f4 := hf.trans (hbX.mono hf.size)
      have f5 := f4.trans (hbY.mono f4.size)
      refine (sameCl_one u1 u2 s HSO.out w5 (HX1.to f5) (HX2.to f5)).mono ?_
      rintro e w6 ⟨rfl, hb6⟩
      have f6 := f5.trans (hb6.mono f5.size)
      go_wp2_with fail
      go_roundw
      case rel => exact ⟨q + 1, by go_num, by omega, f6⟩
      case measure => simp [intOf]; omega
    · obtain rfl : q = n2 := by omega
      have t1 : ¬ (q : Int) < (q : Int) := by omega
      go_wp2_with fail
      go_ret
      exact ⟨rfl, hf⟩
end Go.Proofs.Ytdopgooglicaiaa
/- The walk of court.Same, where two courts read as one. -/
set_option linter.unusedSimpArgs false
set_option linter.unusedVariables false
namespace Go.Proofs.Ytdopgooglicaiaa
open Go.RowKit
set_option maxRecDepth 100000
theorem eqItems_ints {e : TypeId} (he : Try.prog.underlying e = some (.int .i64)) (d : Nat) (a : List Int) (w : World) : ∀ l : List Nat, (∀ i ∈ l, i < a.length) →
    (Op.eqItems (d + 1) e 1 (a.map (Value.int .i64)).toArray (a.map (Value.int .i64)).toArray l).run Try.prog w = .ok true w
  | [], _ => by simp [Op.eqItems]
  | i :: l, h => by
    have ha := h i (by simp)
    have hp : Try.prog.plainKey e = true := by unfold Program.plainKey; rw [he]
    have pa := run_part_plain (P := Try.prog) w hp (xs := (a.map (Value.int .i64)).toArray) (off := i) (v := .int .i64 a[i]) (by simp [ha])
    have ih := eqItems_ints he d a w l (fun j hj => h j (by simp [hj]))
    have hq : (Op.equalIn (d + 1) e (.int .i64 a[i]) (.int .i64 a[i])).run Try.prog w = .ok (a[i] == a[i]) w := run_equalIn_int w d e .i64 .i64 _ _ he
    simp only [Op.eqItems, Sem.run_bind, Nat.mul_one, pa, hq, Result.andThen_ok, beq_self_eq_true, Bool.not_true, Bool.false_eq_true, if_false]
    exact ih
theorem eq_bank (a : List Int) (ha : a.length = 8) (w : World) : (Op.equalIn 10000 27 (.agg (a.map (Value.int .i64)).toArray) (.agg (a.map (Value.int .i64)).toArray)).run Try.prog w = .ok true w := by
  obtain ⟨i, hi⟩ : ∃ i, Try.prog.info? 3 = some i := by
    have h : (Try.prog.info? 3).isSome = true := by kernel_rfl
    exact Option.isSome_iff_exists.1 h
  rw [run_equalIn_array w 9999 _ _ Try.underlying27 hi, show Try.prog.cellsOf 3 = 1 from by kernel_rfl, eqItems_ints Try.underlying3 9998 a w (List.range 8) (fun i hi => by simp at hi; omega)]
theorem info_bank {a : List Int} (ha : a.length = 8) : (Try.prog.info? 27).map (·.size) = some (a.map (Value.int .i64)).length := by rw [List.length_map, ha]; kernel_rfl
theorem co_bankr {vt vc : Value} {c : CO} (h : c.pre.length = 32) : ((coC vt vc c).drop 34).take (c.bank.map (Value.int .i64)).length = c.bank.map (Value.int .i64) := by
  have e : coC vt vc c = ([Value.int .i64 c.now] ++ (B8 c.pre ++ [vt])) ++ (c.bank.map (Value.int .i64) ++ [vc]) := by simp [coC]
  rw [e, List.drop_left' (by simp [B8_len, h]), List.take_left' rfl]
set_option maxRecDepth 100000 in
set_option maxHeartbeats 4000000 in
theorem sameC_any (v1 v2 : Value) (c : CO) (hc : c.ok) (w : World) (h1 : CoX [] w v1 c) (h2 : CoX [] w v2 c) : Calls Try.prog 19 #[v1, v2] w (RB true w) := by
  obtain ⟨vt, vc, rfl, ht, hl⟩ := h1
  obtain ⟨vt2, vc2, rfl, ht2, hl2⟩ := h2
  obtain ⟨W, HW, hbw, ba, bb⟩ : ∃ W, Hid (W = (w.alloc (.cells (coC vt vc c).toArray 30)).alloc (.cells (coC vt2 vc2 c).toArray 30)) ∧ Below w.heap.size w W ∧
      Blk W w.heap.size 30 (coC vt vc c) ∧ Blk W (w.heap.size + 1) 30 (coC vt2 vc2 c) := by
    refine ⟨_, rfl, ((Below.refl _ _).alloc (Nat.le_refl _) _).alloc (by simp) _, ?_, ?_⟩
    · exact (Blk.new w (coC vt vc c).toArray 30).to ((Below.refl _ _).alloc (Nat.le_refl _) _)
    · have := Blk.new (w.alloc (.cells (coC vt vc c).toArray 30)) (coC vt2 vc2 c).toArray 30
      rw [show (w.alloc (.cells (coC vt vc c).toArray 30)).heap.size = w.heap.size + 1 from by simp] at this
      exact this
  have HC := Lib.hid hc
  have htW := ht.to hbw
  have htW2 := ht2.to hbw
  have hlW := hl.to hbw
  have hlW2 := hl2.to hbw
  have ka0 : W.cell? ⟨w.heap.size, 0, none⟩ = some (.int .i64 c.now) := by rw [ba.cell]; exact co_now
  have kb0 : W.cell? ⟨w.heap.size + 1, 0, none⟩ = some (.int .i64 c.now) := by rw [bb.cell]; exact co_now
  have ka33 : W.cell? ⟨w.heap.size, 33, none⟩ = some vt := by rw [ba.cell]; exact co_txs hc.pre
  have kb33 : W.cell? ⟨w.heap.size + 1, 33, none⟩ = some vt2 := by rw [bb.cell]; exact co_txs hc.pre
  have ra := ba.sub 1 (B8 c.pre) (co_pre hc.pre)
  have rb := bb.sub 1 (B8 c.pre) (co_pre hc.pre)
  have eq1 : ∀ w', (Op.equalIn 10000 25 (.agg (B8 c.pre).toArray) (.agg (B8 c.pre).toArray)).run Try.prog w' = .ok true w' := fun w' => by
    rw [eq_hash c.pre c.pre hc.pre hc.pre w']
    simp
  obtain ⟨A, n, cc, rfl, sl, hn, _, _⟩ := htW
  obtain ⟨A2, n2, cc2, rfl, sl2, hn2, _, _⟩ := htW2
  have hn4 := hc.n
  have ba' := ba
  have bb' := bb
  clear hc ht hl ht2 hl2
  go_enter Try.func19, Try.ntmps19
  go_upto_region 1 with fail
  refine wp_at HW.out ?_
  clear HW
  go_wp2_with (first
    | (refine wpl_load_fld (by rfl) _ _ rfl w.heap.size 1 rfl (B8 c.pre) _ ra Try.underlying25 rfl (info_hash HC.out.pre) ?_)
    | (refine wpl_load_fld (by rfl) _ _ rfl (w.heap.size + 1) 1 rfl (B8 c.pre) _ rb Try.underlying25 rfl (info_hash HC.out.pre) ?_))
  refine (equal_H A n cc c.txs A2 n2 cc2 c.txs W sl HC.out.txs sl2 HC.out.txs (by omega) (by omega)).mono ?_
  rintro e w1 ⟨rfl, hb1⟩
  rw [decide_eq_true rfl]
  have ba1 := ba.to hb1
  have bb1 := bb.to hb1
  have ra1 := ba1.sub 34 _ (co_bankr HC.out.pre)
  have rb1 := bb1.sub 34 _ (co_bankr HC.out.pre)
  have ka42 : w1.cell? ⟨w.heap.size, 42, none⟩ = some vc := by rw [ba1.cell]; exact co_claims HC.out.pre HC.out.bank
  have kb42 : w1.cell? ⟨w.heap.size + 1, 42, none⟩ = some vc2 := by rw [bb1.cell]; exact co_claims HC.out.pre HC.out.bank
  have eq2 : ∀ w', (Op.equalIn 10000 27 (.agg (c.bank.map (Value.int .i64)).toArray) (.agg (c.bank.map (Value.int .i64)).toArray)).run Try.prog w' = .ok true w' := eq_bank c.bank HC.out.bank
  have f1 := hbw.trans (hb1.mono hbw.size)
  clear ba bb ra rb ka0 kb0 ka33 kb33
  go_wp2_with (first
    | (refine wpl_load_fld (by rfl) _ _ rfl w.heap.size 34 rfl (c.bank.map (Value.int .i64)) _ ra1 Try.underlying27 rfl (info_bank HC.out.bank) ?_)
    | (refine wpl_load_fld (by rfl) _ _ rfl (w.heap.size + 1) 34 rfl (c.bank.map (Value.int .i64)) _ rb1 Try.underlying27 rfl (info_bank HC.out.bank) ?_))
  refine (eqClaims_any vc vc2 c.claims HC.out.claims w1 (hlW.to hb1) (hlW2.to hb1) HC.out.m).mono ?_
  rintro e w2 ⟨rfl, hb2⟩
  go_wp2_with fail
  go_ret
  exact ⟨rfl, f1.trans (hb2.mono f1.size)⟩
end Go.Proofs.Ytdopgooglicaiaa
