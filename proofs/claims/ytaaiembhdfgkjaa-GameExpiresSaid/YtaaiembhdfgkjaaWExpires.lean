/- The walk of capstanlaw16.GameExpires. -/
import Derived.Test.YtaaiembhdfgkjaaGameQ
import Derived.Test.YtaaiembhdfgkjaaExpP
namespace Go.Proofs.Ytaaiembhdfgkjaa
open Go.RowKit
theorem built_oneY (y : UInt8) : Try.prog.built 26 [(0, .int .u8 (y.toNat : Int))] = some (B8 (one_ y)).toArray := by kernel_rfl
set_option maxRecDepth 100000 in
set_option maxHeartbeats 4000000 in
theorem gameExpires_walk (w : World) (n : Int) (n_lo : -9223372036854775808 ≤ n) (n_hi : n < 9223372036854775808) (mv : Int) (mv_lo : -9223372036854775808 ≤ mv) (mv_hi : mv < 9223372036854775808) (at_ : Int) (at_lo : -9223372036854775808 ≤ at_) (at_hi : at_ < 9223372036854775808) :
    Calls Try.prog 11 #[.int .i64 n, .int .i64 mv, .int .i64 at_] w (RB true w) := by
  obtain ⟨k, hk, hk5⟩ : ∃ k : Nat, n % 60 = (k : Int) ∧ k < 60 := ⟨(n % 60).toNat, by omega, by omega⟩
  have HK := Lib.hid hk
  obtain ⟨M, hM, hM14⟩ : ∃ M : Nat, mv % 14 = (M : Int) ∧ M < 14 := ⟨(mv % 14).toNat, by omega, by omega⟩
  have HMV := Lib.hid hM
  clear hk hM
  go_enter Try.func11, Try.ntmps11
  go_wp2_with fail
  refine (gameKnown_any _).mono ?_
  rintro e w1 ⟨rfl, f1⟩
  go_wp2_with fail
  refine (within_capstanlaw16 n 60 _ (by omega) (by omega) n_lo n_hi).mono ?_
  rintro e w' ⟨rfl, rfl⟩
  rw [HK.out]
  obtain ⟨N, hN⟩ : ∃ N : Nat, N = 1 + k := ⟨_, rfl⟩
  have u1 : (1 : Int) + (k : Int) = (N : Int) := by omega
  have hN1 : 1 ≤ N := by omega
  have hN5 : N ≤ 60 := by omega
  clear hN
  go_wp2_with fail
  refine (within_capstanlaw16 mv 14 _ (by omega) (by omega) mv_lo mv_hi).mono ?_
  rintro e w' ⟨rfl, rfl⟩
  rw [HMV.out]
  go_wp2_with fail
  refine (hashes_any N _ (by omega)).mono ?_
  rintro e w2 ⟨A2, c2, rfl, ho2, hb2⟩
  have f2 := f1.trans (hb2.mono f1.size)
  clear hb2 f1
  go_wp2_with (first
    | (refine wpl_build (by rfl) _ _ rfl _ built_one1 ?_)
    | (refine wpl_build (by rfl) _ _ rfl _ built_one2 ?_))
  refine (start_ok A2 N c2 (hashL N) (one_ 1) (one_ 2) 0 w2 ho2.sl (by omega) (by omega) rfl rfl ⟨by decide, by decide⟩).mono ?_
  rintro e w3 ⟨A3, c3, rfl, sl3, hb3, _⟩
  have f3 := f2.trans (hb3.mono f2.size)
  have mi := einv_zero N (by omega) (one_ 1) (one_ 2) rfl rfl
  clear hb3 f2 ho2
  dsimp only
  generalize turnD (startD (N : Int) (one_ 1) (one_ 2) 0) = d0 at *
  obtain ⟨b3, o3, rfl, hlt3⟩ := sl3.some_ (by omega)
  have hld := mi.len
  have tokA : True := trivial
  go_wp2_with (first
    | (have _t := tokA
       refine wpl_gput (Blk.new _ _ _) zero_len hld rfl (by rfl) _ _ _ rfl rfl rfl info_g ?_
       intro w4 gb4 bu4
       have f4 := (f3.alloc f3.size _).trans (below_but bu4 f3.size (by simp; exact Nat.le_succ_of_le f3.size))
       have sl4 := (sl3.alloc (.cells Try.zeroCells41 41)).but bu4 (by simp; omega)
       have hg : w.heap.size ≤ w3.heap.size := f3.size
       clear bu4 f3 sl3 tokA))
  go_loopw [9, 10] (fun nw k wr => ∃ (m : Nat) (t : Int) (d : GD) (A : Option Addr) (c : Nat), nw = .int .i64 t ∧ k = .int .i64 m ∧ m ≤ 14 ∧ EInv m t d ∧ GB 41 wr w3.heap.size (.slice A N c) d ∧ Sl wr 32 A N (H8 (hashL N)) ∧ (∀ b, A.map (·.block) = some b → b ≠ w3.heap.size) ∧ Below w.heap.size w wr) (fun _ k _ => 14 - (intOf k).toNat)
  case atStart => exact ⟨0, 0, d0, _, _, rfl, rfl, by omega, mi, gb4, sl4, (by intro b hb; simp at hb; omega), f4⟩
  case round =>
    clear gb4 f4 sl4 mi
    obtain ⟨m, t, d, A, c, rfl, rfl, hm14, mi, gb, slh, hne, hf⟩ := hrel
    have NE := Lib.hid hne
    have MI := Lib.hid mi
    have c99 := gb.c99
    have c101 := gb.c101
    have t0 := mi.t0
    have t1 := mi.t1
    have hl0 := mi.limit
    have hmv := mi.moves
    have hld := mi.len
    have HL0 := Lib.hid hl0
    have HMM := Lib.hid hmv
    have hturn := mi.turn
    have HT := Lib.hid hturn
    clear hne mi hl0 hmv hturn
    by_cases hgo : m < M ∧ d.turn ≠ 3
    · obtain ⟨hmM, h3⟩ := hgo
      have tm : (m : Int) < (M : Int) := by omega
      have t3 : (d.turn != 3) = true := by simpa using h3
      have H3 := Lib.hid h3
      clear h3
      have wl : -9223372036854775808 ≤ wrap64 (at_ + (m : Int)) ∧ wrap64 (at_ + (m : Int)) < 9223372036854775808 := by unfold wrap64; omega
      have WL := Lib.hid wl
      clear wl
      go_wp2_with fail
      refine (within_capstanlaw16 (wrap64 (at_ + (m : Int))) 4 _ (by omega) (by omega) WL.out.1 WL.out.2).mono ?_
      rintro e w' ⟨rfl, rfl⟩
      obtain ⟨x, hx, x0, x3⟩ : ∃ x : Int, wrap64 (at_ + (m : Int)) % 4 = x ∧ 0 ≤ x ∧ x ≤ 3 := ⟨_, rfl, by omega, by omega⟩
      rw [hx]
      clear hx
      obtain ⟨y, hy⟩ : ∃ y : UInt8, ((y.toNat : Nat) : Int) = (m : Int) := ⟨UInt8.ofNat m, by simp; omega⟩
      have HY := Lib.hid hy
      clear hy
      have hgw := gb.lt
      have mvb : d.moves = (m : Int) := HMM.out
      have mv1 : 0 ≤ d.moves := by omega
      have mv2 : d.moves ≤ 1099511627776 := by omega
      clear mvb
      by_cases h1 : d.turn = 1
      · obtain ⟨hsay, mi5⟩ := einv_say MI.out (by omega) h1 x x0 x3 (one_ y) (one_len y)
        have te : (d.turn == 1) = true := by simpa using h1
        have HSY := Lib.hid hsay
        have MI5 := Lib.hid mi5
        have hl5 := mi5.len
        have hlim := mi5.limit
        have hmo := mi5.moves
        have HLM := Lib.hid hlim
        have HMO := Lib.hid hmo
        clear hsay mi5 h1 hlim hmo
        go_wp2_with (first
          | (refine wpl_gload gb (by rfl) _ _ rfl rfl _ Try.underlying41 rfl info_g ?_)
          | (refine wpl_build (by rfl) _ _ rfl (B8 (one_ y)).toArray (by have := built_oneY y; rw [HY.out] at this; exact this) ?_))
        refine (say_any A N c (hashL N) d hld (one_ y) (t + x) wr slh (by omega) (one_len y) mv1 mv2).mono ?_
        rw [HSY.out]
        rintro e w5 ⟨A5, c5, rfl, sl5, hb5, fr5⟩
        have gb5 := gb.to hb5
        have f5 := hf.trans (hb5.mono hf.size)
        clear gb slh hb5 hf c99 c101
        dsimp only
        generalize saidE d (one_ y) (t + x) = d5 at *
        go_wp2_with (first
          | (refine wpl_gput gb5.blk (gcells_len gb5.len) hl5 rfl (by rfl) _ _ _ rfl rfl rfl info_g ?_
             intro w6 gb6 bu6
             have f6 := f5.trans (below_but bu6 hg f5.size)
             have sl6 := sl5.but2 bu6 (fun b hb h => by injection h with h; have := fr5 b hb; omega)
             have d101 := gb6.c101
             have d100 := gb6.c100
             rw [HLM.out] at d101
             rw [HMO.out] at d100
             clear bu6 f5 sl5 gb5))
        go_roundw
        case rel => exact ⟨m + 1, t + x, d5, A5, c5, rfl, by go_num, by omega, MI5.out, gb6, sl6, fun b hb => by have := fr5 b hb; omega, f6⟩
        case measure => simp [intOf]; omega
      · have h2 : d.turn = 2 := by
          have := HT.out
          have := H3.out
          omega
        have te : (d.turn == 1) = false := by simpa using h1
        clear h1
        go_wp2_with (first
          | (refine wpl_gload gb (by rfl) _ _ rfl rfl _ Try.underlying41 rfl info_g ?_))
        obtain ⟨r, hr⟩ : ∃ r, r = ((wrap64 (at_ + (m : Int))).tmod 2 == 0) := ⟨_, rfl⟩
        rw [← hr]
        clear hr
        obtain ⟨hch, mi5⟩ := einv_choose MI.out (by omega) h2 x x0 x3 r
        have HCH := Lib.hid hch
        have MI5 := Lib.hid mi5
        have hl5 := mi5.len
        have hlim := mi5.limit
        have hmo := mi5.moves
        have HLM := Lib.hid hlim
        have HMO := Lib.hid hmo
        have q1 := MI.out.lo
        have q2 := MI.out.le
        have q3 := MI.out.hi
        clear hch mi5 h2 hlim hmo
        refine (choose_any A N c (hashL N) d hld r (t + x) wr slh (by omega) mv1 mv2 q1 q2 (by omega)).mono ?_
        rw [HCH.out]
        rintro e w5 ⟨A5, c5, rfl, sl5, hb5, fr5⟩
        have gb5 := gb.to hb5
        have f5 := hf.trans (hb5.mono hf.size)
        clear gb slh hb5 hf c99 c101 q1 q2 q3
        dsimp only
        generalize chosenE d r (t + x) = d5 at *
        go_wp2_with (first
          | (refine wpl_gput gb5.blk (gcells_len gb5.len) hl5 rfl (by rfl) _ _ _ rfl rfl rfl info_g ?_
             intro w6 gb6 bu6
             have f6 := f5.trans (below_but bu6 hg f5.size)
             have sl6 := sl5.but2 bu6 (fun b hb h => by injection h with h; have := fr5 b hb; omega)
             have d101 := gb6.c101
             have d100 := gb6.c100
             rw [HLM.out] at d101
             rw [HMO.out] at d100
             clear bu6 f5 sl5 gb5))
        go_roundw
        case rel => exact ⟨m + 1, t + x, d5, A5, c5, rfl, by go_num, by omega, MI5.out, gb6, sl6, fun b hb => by have := fr5 b hb; omega, f6⟩
        case measure => simp [intOf]; omega
    · have hx1 := einv_early MI.out hm14
      have hx2 := einv_late MI.out hm14
      have EE := Lib.hid hx1
      have EL := Lib.hid hx2
      have hli : d.limit = t + 3 := HL0.out
      have li1 : 0 ≤ d.limit := by omega
      have li2 : d.limit ≤ 100 := by omega
      obtain ⟨bg, og, rfl, hbg⟩ := slh.some_ (by omega)
      clear hx1 hx2 hli
      by_cases hmM : m < M
      · have h3 : d.turn = 3 := by
          by_cases h3 : d.turn = 3
          · exact h3
          · exact absurd ⟨hmM, h3⟩ hgo
        have t3 : (d.turn != 3) = false := by simpa using h3
        have tm : (m : Int) < (M : Int) := by omega
        clear h3 hgo
        go_wp2_with (first
          | (refine wpl_gload gb (by rfl) _ _ rfl rfl _ Try.underlying41 rfl info_g ?_))
        refine (expire_any (some ⟨bg, og, none⟩) N c (hashL N) d hld d.limit wr slh (by omega)).mono ?_
        rw [EE.out]
        rintro e w5 ⟨A5, c5, rfl, sl5, hb5, fr5⟩
        have gb5 := gb.to hb5
        have sg5 := slh.to hb5
        have f5 := hf.trans (hb5.mono hf.size)
        have hg5 := gb5.lt
        have hs5 := hb5.size
        clear gb slh hb5 hf c99 c101
        dsimp only
        obtain ⟨b5, o5, rfl, hlt5⟩ := sl5.some_ (by omega)
        have tok1 : True := trivial
        have tok2 : True := trivial
        go_wp2_with (first
          | (have _t := tok1
             refine wpl_gput (Blk.new _ _ _) zero_len hld rfl (by rfl) _ _ _ rfl rfl rfl info_g ?_
             intro w6 gx6 bu6
             have f6 := (f5.alloc f5.size _).trans (below_but bu6 f5.size (by simp; exact Nat.le_succ_of_le f5.size))
             have sl6 := (sl5.alloc (.cells Try.zeroCells41 41)).but bu6 (by simp; omega)
             have gb6 := (gb5.to ((Below.refl _ _).alloc (Nat.le_refl _) (.cells Try.zeroCells41 41))).but bu6 (by simp; omega)
             have sg6 := (sg5.alloc (.cells Try.zeroCells41 41)).but2 bu6 (fun b hb h => by simp at hb; injection h with h; omega)
             have c101 := gb6.c101
             clear bu6 f5 sl5 gb5 sg5 tok1)
          | (have _t := tok2
             refine wpl_gload gb6 (by rfl) _ _ rfl rfl _ Try.underlying41 rfl info_g ?_
             clear tok2))
        refine (expire_any (some ⟨bg, og, none⟩) N c (hashL N) d hld (d.limit + 1) w6 sg6 (by omega)).mono ?_
        rcases Bool.eq_false_or_eq_true (d.turn == 2) with t2 | t2
        all_goals
          rw [EL.out, t2]
          rintro e w7 ⟨A7, c7, rfl, sl7, hb7, fr7⟩
          have gb7 := gb6.to hb7
          have sg7 := sg6.to hb7
          have gx7 := gx6.to hb7
          have sx7 := sl6.to hb7
          have f7 := f6.trans (hb7.mono f6.size)
          have hg7 := gb7.lt
          have hx7 := gx7.lt
          have hs7 := hb7.size
          have hs6 : w5.heap.size < w6.heap.size := gx6.lt
          have hb56 : b5 < w6.heap.size := by omega
          have hlo : GLen (overD d (d.turn == 2)) := ⟨hld.1, hld.2, hld.3⟩
          clear gb6 gx6 sg6 sl6 hb7 f6 c101
          dsimp only
          have tok3 : True := trivial
          have tok4 : True := trivial
          have tok5 : True := trivial
          rw [t2] at hlo
          go_wp2_with (first
            | (have _t := tok3
               refine wpl_gput (Blk.new _ _ _) zero_len hlo rfl (by rfl) _ _ _ rfl rfl rfl info_g ?_
               intro w8 gy8 bu8
               have f8 := (f7.alloc f7.size _).trans (below_but bu8 f7.size (by simp; exact Nat.le_succ_of_le f7.size))
               have gb8 := (gb7.to ((Below.refl _ _).alloc (Nat.le_refl _) (.cells Try.zeroCells41 41))).but bu8 (by simp; omega)
               have gx8 := (gx7.to ((Below.refl _ _).alloc (Nat.le_refl _) (.cells Try.zeroCells41 41))).but bu8 (by simp; omega)
               have sg8 := (sg7.alloc (.cells Try.zeroCells41 41)).but bu8 (by simp; omega)
               have sx8 := (sx7.alloc (.cells Try.zeroCells41 41)).but bu8 (by simp; omega)
               clear bu8 f7 gb7 gx7 sg7 sx7 tok3)
            | (have _t := tok4
               refine wpl_gload gx8 (by rfl) _ _ rfl rfl _ Try.underlying41 rfl info_g ?_
               clear tok4)
            | (have _t := tok5
               refine wpl_gload gb8 (by rfl) _ _ rfl rfl _ Try.underlying41 rfl info_g ?_
               clear tok5))
          refine (same_any (some ⟨b5, o5, none⟩) N c5 (hashL N) d (some ⟨bg, og, none⟩) N c (hashL N) d w8 sx8 (hashL_all N) sg8 (hashL_all N) (by omega) (by omega) hld hld).mono ?_
          rw [show decide (d = d ∧ hashL N = hashL N) = true from by simp]
          rintro e w9 ⟨rfl, hb9⟩
          have gb9 := gb8.to hb9
          have gy9 := gy8.to hb9
          have f9 := f8.trans (hb9.mono f8.size)
          have g99 := gb9.c99
          have g100 := gb9.c100
          have y99 : w9.cell? ⟨w7.heap.size, 99, none⟩ = some (.int .i64 4) := gy9.c99
          have y100 : w9.cell? ⟨w7.heap.size, 100, none⟩ = some (.int .i64 d.moves) := gy9.c100
          have y102 := gy9.c102
          have y103 := gy9.c103
          have y104 := gy9.c104
          unfold overD at y102 y103 y104
          simp only [Bool.false_eq_true, if_false, if_true] at y102 y103 y104
          clear gb8 gx8 gy8 sg8 sx8 hb9 f8
          go_wp2_with fail
          go_ret
          exact ⟨rfl, f9⟩
      · have tm : ¬ (m : Int) < (M : Int) := by omega
        clear hgo
        go_wp2_with (first
          | (refine wpl_gload gb (by rfl) _ _ rfl rfl _ Try.underlying41 rfl info_g ?_))
        refine (expire_any (some ⟨bg, og, none⟩) N c (hashL N) d hld d.limit wr slh (by omega)).mono ?_
        rw [EE.out]
        rintro e w5 ⟨A5, c5, rfl, sl5, hb5, fr5⟩
        have gb5 := gb.to hb5
        have sg5 := slh.to hb5
        have f5 := hf.trans (hb5.mono hf.size)
        have hg5 := gb5.lt
        have hs5 := hb5.size
        clear gb slh hb5 hf c99 c101
        dsimp only
        obtain ⟨b5, o5, rfl, hlt5⟩ := sl5.some_ (by omega)
        have tok1 : True := trivial
        have tok2 : True := trivial
        go_wp2_with (first
          | (have _t := tok1
             refine wpl_gput (Blk.new _ _ _) zero_len hld rfl (by rfl) _ _ _ rfl rfl rfl info_g ?_
             intro w6 gx6 bu6
             have f6 := (f5.alloc f5.size _).trans (below_but bu6 f5.size (by simp; exact Nat.le_succ_of_le f5.size))
             have sl6 := (sl5.alloc (.cells Try.zeroCells41 41)).but bu6 (by simp; omega)
             have gb6 := (gb5.to ((Below.refl _ _).alloc (Nat.le_refl _) (.cells Try.zeroCells41 41))).but bu6 (by simp; omega)
             have sg6 := (sg5.alloc (.cells Try.zeroCells41 41)).but2 bu6 (fun b hb h => by simp at hb; injection h with h; omega)
             have c101 := gb6.c101
             clear bu6 f5 sl5 gb5 sg5 tok1)
          | (have _t := tok2
             refine wpl_gload gb6 (by rfl) _ _ rfl rfl _ Try.underlying41 rfl info_g ?_
             clear tok2))
        refine (expire_any (some ⟨bg, og, none⟩) N c (hashL N) d hld (d.limit + 1) w6 sg6 (by omega)).mono ?_
        rcases Bool.eq_false_or_eq_true (d.turn == 2) with t2 | t2
        all_goals
          rw [EL.out, t2]
          rintro e w7 ⟨A7, c7, rfl, sl7, hb7, fr7⟩
          have gb7 := gb6.to hb7
          have sg7 := sg6.to hb7
          have gx7 := gx6.to hb7
          have sx7 := sl6.to hb7
          have f7 := f6.trans (hb7.mono f6.size)
          have hg7 := gb7.lt
          have hx7 := gx7.lt
          have hs7 := hb7.size
          have hs6 : w5.heap.size < w6.heap.size := gx6.lt
          have hb56 : b5 < w6.heap.size := by omega
          have hlo : GLen (overD d (d.turn == 2)) := ⟨hld.1, hld.2, hld.3⟩
          clear gb6 gx6 sg6 sl6 hb7 f6 c101
          dsimp only
          have tok3 : True := trivial
          have tok4 : True := trivial
          have tok5 : True := trivial
          rw [t2] at hlo
          go_wp2_with (first
            | (have _t := tok3
               refine wpl_gput (Blk.new _ _ _) zero_len hlo rfl (by rfl) _ _ _ rfl rfl rfl info_g ?_
               intro w8 gy8 bu8
               have f8 := (f7.alloc f7.size _).trans (below_but bu8 f7.size (by simp; exact Nat.le_succ_of_le f7.size))
               have gb8 := (gb7.to ((Below.refl _ _).alloc (Nat.le_refl _) (.cells Try.zeroCells41 41))).but bu8 (by simp; omega)
               have gx8 := (gx7.to ((Below.refl _ _).alloc (Nat.le_refl _) (.cells Try.zeroCells41 41))).but bu8 (by simp; omega)
               have sg8 := (sg7.alloc (.cells Try.zeroCells41 41)).but bu8 (by simp; omega)
               have sx8 := (sx7.alloc (.cells Try.zeroCells41 41)).but bu8 (by simp; omega)
               clear bu8 f7 gb7 gx7 sg7 sx7 tok3)
            | (have _t := tok4
               refine wpl_gload gx8 (by rfl) _ _ rfl rfl _ Try.underlying41 rfl info_g ?_
               clear tok4)
            | (have _t := tok5
               refine wpl_gload gb8 (by rfl) _ _ rfl rfl _ Try.underlying41 rfl info_g ?_
               clear tok5))
          refine (same_any (some ⟨b5, o5, none⟩) N c5 (hashL N) d (some ⟨bg, og, none⟩) N c (hashL N) d w8 sx8 (hashL_all N) sg8 (hashL_all N) (by omega) (by omega) hld hld).mono ?_
          rw [show decide (d = d ∧ hashL N = hashL N) = true from by simp]
          rintro e w9 ⟨rfl, hb9⟩
          have gb9 := gb8.to hb9
          have gy9 := gy8.to hb9
          have f9 := f8.trans (hb9.mono f8.size)
          have g99 := gb9.c99
          have g100 := gb9.c100
          have y99 : w9.cell? ⟨w7.heap.size, 99, none⟩ = some (.int .i64 4) := gy9.c99
          have y100 : w9.cell? ⟨w7.heap.size, 100, none⟩ = some (.int .i64 d.moves) := gy9.c100
          have y102 := gy9.c102
          have y103 := gy9.c103
          have y104 := gy9.c104
          unfold overD at y102 y103 y104
          simp only [Bool.false_eq_true, if_false, if_true] at y102 y103 y104
          clear gb8 gx8 gy8 sg8 sx8 hb9 f8
          go_wp2_with fail
          go_ret
          exact ⟨rfl, f9⟩
end Go.Proofs.Ytaaiembhdfgkjaa
