/- The walk of capstanlaw16.GameMoves. -/
import Derived.Test.YtaaiembhdfgkjaaGameK
import Derived.Test.YtaaiembhdfgkjaaMovesP
namespace Go.Proofs.Ytaaiembhdfgkjaa
open Go.RowKit
theorem built_one (y : UInt8) : Try.prog.built 26 [(0, .int .u8 (y.toNat : Int))] = some (B8 (one_ y)).toArray := by kernel_rfl
theorem eq_zero_ (w : World) : (Op.equalIn 10000 26 (.agg (B8 zero32).toArray) (.agg (B8 zero32).toArray)).run Try.prog w = .ok true w := by
  rw [eq_hash zero32 zero32 rfl rfl w]
  simp
set_option maxRecDepth 100000 in
set_option maxHeartbeats 4000000 in
theorem gameMoves_walk (w : World) (n : Int) (n_lo : -9223372036854775808 ≤ n) (n_hi : n < 9223372036854775808) (A : Option Addr) (nr cr : Nat) (bs : List Bool) (hnc : nr ≤ cr) (hcm : cr ≤ maxLen) (sl : Sl w 1 A nr (bs.map Value.bool)) :
    Calls Try.prog 9 #[.int .i64 n, .slice A nr cr] w (RB true w) := by
  obtain ⟨k, hk, hk5⟩ : ∃ k : Nat, n % 2048 = (k : Int) ∧ k < 2048 := ⟨(n % 2048).toNat, by omega, by omega⟩
  have HK := Lib.hid hk
  have lb := sl.len
  rw [List.length_map, Nat.mul_one] at lb
  have LB := Lib.hid lb
  clear hk lb hnc hcm
  go_enter Try.func9, Try.ntmps9
  go_wp2_with fail
  refine (gameKnown_any _).mono ?_
  rintro e w1 ⟨rfl, f1⟩
  go_wp2_with fail
  refine (within_capstanlaw16 n 2048 _ (by omega) (by omega) n_lo n_hi).mono ?_
  rintro e w' ⟨rfl, rfl⟩
  rw [HK.out]
  obtain ⟨N, hN⟩ : ∃ N : Nat, N = 1 + k := ⟨_, rfl⟩
  have u1 : (1 : Int) + (k : Int) = (N : Int) := by omega
  have hN1 : 1 ≤ N := by omega
  have hN5 : N ≤ 2048 := by omega
  clear hN
  go_wp2_with fail
  refine (hashes_any N _ (by omega)).mono ?_
  rintro e w2 ⟨A2, c2, rfl, ho2, hb2⟩
  have f2 := f1.trans (hb2.mono f1.size)
  clear hb2 f1
  go_wp2_with (first
    | (refine wpl_build (by rfl) _ _ rfl _ built_one1 ?_)
    | (refine wpl_build (by rfl) _ _ rfl _ built_one2 ?_))
  refine (start_ok A2 N c2 (hashL N) (one_ 1) (one_ 2) 0 w2 ho2.sl (by omega) (by omega) rfl rfl ⟨by decide, by decide⟩).mono ?_
  rintro e w3 ⟨A3, c3, rfl, sl3, hb3, _⟩
  have f3 := f2.trans (hb3.mono f2.size)
  have mi := minv_zero N hN1 (one_ 1) (one_ 2) rfl rfl
  clear hb3 f2 ho2
  dsimp only
  generalize turnD (startD (N : Int) (one_ 1) (one_ 2) 0) = d0 at *
  obtain ⟨b3, o3, rfl, hlt3⟩ := sl3.some_ (by omega)
  have hld := mi.len
  go_wp2_with (first
    | (refine wpl_gput (Blk.new _ _ _) zero_len hld rfl (by rfl) _ _ _ rfl rfl rfl info_g ?_
       intro w4 gb4 bu4
       have f4 := (f3.alloc f3.size _).trans (below_but bu4 f3.size (by simp; exact Nat.le_succ_of_le f3.size))
       have sl4 := (sl3.alloc (.cells Try.zeroCells41 41)).but bu4 (by simp; omega)
       have hg : w.heap.size ≤ w3.heap.size := f3.size
       clear bu4 f3 sl3))
  go_loopw [8] (fun i wr => ∃ l : Nat, i = .int .i64 l ∧ l ≤ 11 ∧ (l = 0 ∨ 2 ^ (l - 1) < N) ∧ wr = w4) (fun i _ => 11 - (intOf i).toNat)
  case atStart => exact ⟨0, rfl, by omega, .inl rfl, rfl⟩
  case round =>
    obtain ⟨l, rfl, hl, hll, rfl⟩ := hrel
    have HLL := Lib.hid hll
    clear hll
    obtain ⟨P, hP⟩ : ∃ P : Nat, P = 2 ^ l := ⟨_, rfl⟩
    have hP11 : P ≤ 2048 := by rw [hP]; exact Nat.pow_le_pow_right (by decide) hl
    have e2 : wrap64 (2 ^ l) = (P : Int) := by
      have : (2 : Int) ^ l = (P : Int) := by rw [hP]; simp
      rw [this]
      exact IntWalk.wrap64_in _ (by omega)
    have HP := Lib.hid hP
    clear hP
    by_cases hlt : P < N
    · have hn : l < 11 := by
        have h1 := HP.out
        rcases Nat.lt_or_ge l 11 with h | h
        · exact h
        · have h2 : 2 ^ 11 ≤ 2 ^ l := Nat.pow_le_pow_right (by decide) h
          omega
      have hnx : l + 1 = 0 ∨ 2 ^ (l + 1 - 1) < N := .inr (by rw [Nat.add_sub_cancel, ← HP.out]; exact hlt)
      have HNX := Lib.hid hnx
      have tl : (P : Int) < (N : Int) := by omega
      clear hnx
      go_wp2_with fail
      go_roundw
      case rel => exact ⟨l + 1, by go_num, by omega, HNX.out, trivial⟩
      case measure => simp [intOf]; omega
    · have tl : ¬ (P : Int) < (N : Int) := by omega
      have hlv : N ≤ 2 ^ l := by rw [← HP.out]; omega
      have HLV := Lib.hid hlv
      clear hlv
      go_wp2_with fail
      clear e2 HLL
      go_loopw [7, 9] (fun e k wr => ∃ (m : Nat) (d : GD) (A : Option Addr) (c : Nat), e = .int .i64 0 ∧ k = .int .i64 m ∧ (m = 0 ∨ 2 ^ (m - 1) < N) ∧ MInv N m d ∧ GB 41 wr w3.heap.size (.slice A N c) d ∧ Sl wr 32 A N (H8 (hashL N)) ∧ (∀ b, A.map (·.block) = some b → b ≠ w3.heap.size) ∧ Below w.heap.size w wr) (fun _ k _ => 12 - (intOf k).toNat)
      case atStart => exact ⟨0, d0, _, _, rfl, rfl, .inl rfl, mi, gb4, sl4, (by intro b hb; simp at hb; omega), f4⟩
      case round =>
        clear gb4 f4 sl4 mi
        obtain ⟨m, d, A, c, rfl, rfl, hm, mi, gb, slh, hne, hf⟩ := hrel
        have hm11 : m ≤ 11 := by
          rcases hm with h | h
          · omega
          · rcases Nat.lt_or_ge m 12 with h2 | h2
            · omega
            · have h3 : 2 ^ 11 ≤ 2 ^ (m - 1) := Nat.pow_le_pow_right (by decide) (by omega)
              omega
        have HM := Lib.hid hm
        have NE := Lib.hid hne
        have MI := Lib.hid mi
        have c1 := gb.c1
        have c2 := gb.c2
        have c99 := gb.c99
        have c100 := gb.c100
        have b1 := mi.lo
        have b2 := mi.lt
        have b3 := mi.hi
        have hmv := mi.moves
        rw [hmv] at c100
        clear hm hne mi hmv
        by_cases h3 : d.turn = 3
        · rw [h3] at c99
          have hd1 : d.hi - d.lo = 1 := by
            have := MI.out.turn
            rw [h3] at this
            split at this
            · assumption
            · omega
          have te : (d.hi == d.lo + 1) = true := by simp; omega
          have hml : m ≤ l := by
            rcases HM.out with h | h
            · omega
            · have h1 : 2 ^ (m - 1) < 2 ^ l := Nat.lt_of_lt_of_le h HLV.out
              have := (Nat.pow_lt_pow_iff_right (a := 2) (by decide)).1 h1
              omega
          have t5 : 2 * (m : Int) ≤ 2 * (l : Int) := by omega
          have t6 : (m : Int) < 30 := by omega
          have q0 := eq_zero_
          clear h3 hd1
          go_wp2_with (first
            | (refine wpl_build (by rfl) _ _ rfl _ (by exact built_zero) ?_))
          refine (refRoot_nil _).mono ?_
          rintro e w9 ⟨rfl, hb9⟩
          unfold hv
          have f9 := hf.trans (hb9.mono hf.size)
          go_wp2_with (first
            | (refine wpl_build (by rfl) _ _ rfl _ (by exact built_zero) ?_))
          go_ret
          exact ⟨rfl, f9⟩
        · have t3 : (d.turn != 3) = true := by simpa using h3
          have t6 : (m : Int) < 30 := by omega
          have H3 := Lib.hid h3
          clear h3
          have hld := gb.len
          obtain ⟨y, hy⟩ : ∃ y : UInt8, ((y.toNat : Nat) : Int) = (m : Int) := ⟨UInt8.ofNat m, by simp; omega⟩
          have HY := Lib.hid hy
          clear hy
          go_wp2_with (first
            | (refine wpl_gload gb (by rfl) _ _ rfl rfl _ Try.underlying41 rfl info_g ?_)
            | (refine wpl_build (by rfl) _ _ rfl (B8 (one_ y)).toArray (by have := built_one y; rw [HY.out] at this; exact this) ?_))
          have mv0 := MI.out.moves
          refine (say_any A N c (hashL N) d hld (one_ y) 0 wr slh (by omega) (one_len y) (by omega) (by omega)).mono ?_
          rw [minv_say MI.out H3.out (one_ y)]
          rintro e w5 ⟨A5, c5, rfl, sl5, hb5, fr5⟩
          have gb5 := gb.to hb5
          have f5 := hf.trans (hb5.mono hf.size)
          have hl5 : GLen (midG d (one_ y)) := ⟨hld.1, hld.2, one_len y⟩
          have hgw := gb.lt
          clear gb slh hb5 hf c99 c100 mv0
          dsimp only
          go_wp2_with (first
            | (refine wpl_gput gb5.blk (gcells_len gb5.len) hl5 rfl (by rfl) _ _ _ rfl rfl rfl info_g ?_
               intro w6 gb6 bu6
               have f6 := f5.trans (below_but bu6 hg f5.size)
               have sl6 := sl5.but2 bu6 (fun b hb h => by injection h with h; have := fr5 b hb; omega)
               have d99 := gb6.c99
               clear bu6 f5 sl5 gb5))
          have mv1 : 0 ≤ (midG d (one_ y)).moves := by show 0 ≤ d.moves + 1; have := MI.out.moves; omega
          have mv2 : (midG d (one_ y)).moves ≤ 1099511627776 := by show d.moves + 1 ≤ _; have := MI.out.moves; omega
          by_cases hk2 : m < nr
          · have tk : (m : Int) < (nr : Int) := by omega
            have slw := sl.to f6.drew
            obtain ⟨bR, oR, rfl, hbR⟩ := slw.some_ (by omega)
            obtain ⟨rb, hrb⟩ : ∃ rb, bs[m]? = some rb := ⟨_, List.getElem?_eq_getElem (by rw [LB.out]; exact hk2)⟩
            refine wp_region_T [1, 2, 3, 4, 5, 6, 7, 8] 0 9 [(9, false), (10, false), (11, false), (12, false), (13, true), (14, true), (15, false), (16, false)] [(10, true), (0, false), (11, false), (12, false), (13, true), (14, true), (15, false), (16, false)] (fun _ _ => True) (by kernel_rfl) (by kernel_rfl) (by kernel_rfl) (by decide) (by decide) (fun _ => trivial) (fun _ _ _ _ _ => trivial) (by intro d v c a w h; cases d <;> exact h) ?_
            have gb6d : GB 41 w6.drew w3.heap.size (.slice A5 N c5) (midG d (one_ y)) := ⟨gb6.blk, gb6.len⟩
            have f6d := f6.drew
            have sl6d := sl6.drew
            have e99 := gb6d.c99
            have cb : w6.drew.cell? ⟨bR, oR + m, none⟩ = some (.bool rb) := slw.cell (k := m) (by simp [hrb])
            clear slw hrb
            clear gb6 f6 sl6
            generalize w6.drew = wd at *
            repeat (first | (refine wpT_quiet (v := ?_) rfl (by rfl) ?_ ?_; rotate_left; (· (intro w' hw'; go_simp; try with_reducible rfl)); simp only [Act.put, List.setIfInBounds_toArray, List.set_cons_zero, List.set_cons_succ]) | (refine wpT_skip rfl (by rfl) ?_; simp only [Act.put, List.setIfInBounds_toArray, List.set_cons_zero, List.set_cons_succ]))
            refine wpT_nil ?_ ?_
            · refine wpC_load_f (fun _ => trivial) rfl (by rfl) _ _ rfl w3.heap.size 0 rfl (gcells (.slice A5 N c5) (midG d (one_ y))) _ gb6d.blk.range Try.underlying41 rfl (info_game hl5) ?_
              simp only [Act.put, List.setIfInBounds_toArray, List.set_cons_zero, List.set_cons_succ]
              repeat (first | (refine wpC_quiet (v := ?_) rfl (by rfl) ?_ ?_; rotate_left; (· (intro w' hw'; go_simp; try with_reducible rfl)); simp only [Act.put, List.setIfInBounds_toArray, List.set_cons_zero, List.set_cons_succ]) | (refine wpC_val (v := ?_) (fun _ => trivial) rfl (by rfl) ?_ ?_; rotate_left; (· (go_simp; try with_reducible rfl)); simp only [Act.put, List.setIfInBounds_toArray, List.set_cons_zero, List.set_cons_succ]) | (refine wpC_skip rfl (by rfl) ?_; simp only [Act.put, List.setIfInBounds_toArray, List.set_cons_zero, List.set_cons_succ]) | (refine wpC_skip' (fun _ => trivial) rfl (by rfl) ?_; simp only [Act.put, List.setIfInBounds_toArray, List.set_cons_zero, List.set_cons_succ]))
              (refine wpC_loud rfl (by rfl) ?_; intro K hK; go_simp)
              refine (choose_any A5 N c5 (hashL N) (midG d (one_ y)) hl5 rb 0 _ sl6d (by omega) mv1 mv2 b1 (by show d.lo ≤ d.hi; omega) (by show d.hi ≤ _; omega)).mono ?_
              rw [minv_choose d (one_ y) rb]
              rintro e w7 ⟨A7, c7, rfl, sl7, hb7, fr7⟩
              (refine hK.out _ _ (trivial) ?_; clear hK K; try simp only [Act.put, List.setIfInBounds_toArray, List.set_cons_zero, List.set_cons_succ])
              have gb7 := gb6d.to hb7
              have f7 := f6d.trans (hb7.mono f6d.size)
              have sz7 := gb6d.lt
              clear gb6d f6d sl6d hb7
              obtain ⟨mi7, h27, hcase⟩ := minv_next MI.out H3.out (one_ y) (one_len y) rb
              have hl7 := mi7.len
              repeat (first | (refine wpC_quiet (v := ?_) rfl (by rfl) ?_ ?_; rotate_left; (· (intro w' hw'; go_simp; try with_reducible rfl)); simp only [Act.put, List.setIfInBounds_toArray, List.set_cons_zero, List.set_cons_succ]) | (refine wpC_val (v := ?_) (fun _ => trivial) rfl (by rfl) ?_ ?_; rotate_left; (· (go_simp; try with_reducible rfl)); simp only [Act.put, List.setIfInBounds_toArray, List.set_cons_zero, List.set_cons_succ]) | (refine wpC_skip rfl (by rfl) ?_; simp only [Act.put, List.setIfInBounds_toArray, List.set_cons_zero, List.set_cons_succ]) | (refine wpC_skip' (fun _ => trivial) rfl (by rfl) ?_; simp only [Act.put, List.setIfInBounds_toArray, List.set_cons_zero, List.set_cons_succ]))
              refine wpC_store_fld rfl (by rfl) _ _ _ rfl w3.heap.size 0 41 _ (gcells (.slice A7 N c7) (nextG d (one_ y) rb)) rfl _ rfl rfl gb7.blk (by rw [gcells_len gb7.len, gcells_len hl7]; omega) (info_game hl7) (gcells_one rfl) (fun _ _ => trivial) ?_
              intro w8 bz8 bu8
              rw [put_all _ _ (by rw [gcells_len gb7.len, gcells_len hl7])] at bz8
              have gb8 : GB 41 w8 w3.heap.size (.slice A7 N c7) (nextG d (one_ y) rb) := ⟨bz8, hl7⟩
              have f8 := f7.trans (below_but bu8 hg f7.size)
              have hgd := gb7.lt
              have sl8 := sl7.but2 bu8 (fun b hb h => by injection h with h; have := fr7 b hb; omega)
              clear bz8 bu8 gb7 f7 sl7
              simp only [Act.put, List.setIfInBounds_toArray, List.set_cons_zero, List.set_cons_succ]
              repeat (first | (refine wpC_quiet (v := ?_) rfl (by rfl) ?_ ?_; rotate_left; (· (intro w' hw'; go_simp; try with_reducible rfl)); simp only [Act.put, List.setIfInBounds_toArray, List.set_cons_zero, List.set_cons_succ]) | (refine wpC_val (v := ?_) (fun _ => trivial) rfl (by rfl) ?_ ?_; rotate_left; (· (go_simp; try with_reducible rfl)); simp only [Act.put, List.setIfInBounds_toArray, List.set_cons_zero, List.set_cons_succ]) | (refine wpC_skip rfl (by rfl) ?_; simp only [Act.put, List.setIfInBounds_toArray, List.set_cons_zero, List.set_cons_succ]) | (refine wpC_skip' (fun _ => trivial) rfl (by rfl) ?_; simp only [Act.put, List.setIfInBounds_toArray, List.set_cons_zero, List.set_cons_succ]))
              refine wpC_nil ?_
              have hm1 : m + 1 = 0 ∨ 2 ^ (m + 1 - 1) < N := .inr (minv_more MI.out h27)
              have HM1 := Lib.hid hm1
              have MI7 := Lib.hid mi7
              have e1 := gb8.c1
              have e2' := gb8.c2
              have g1 := mi7.lo
              have g2 := mi7.lt
              have g3 := mi7.hi
              have NE7 : Hid (∀ b, A7.map (·.block) = some b → b ≠ w3.heap.size) := fun b hb => by have := fr7 b hb; omega
              clear hm1 mi7 d99 e99
              generalize nextG d (one_ y) rb = d7 at *
              have q1 : 0 ≤ d7.hi - d7.lo := by omega
              have q2 : d7.hi - d7.lo ≤ 2048 := by omega
              have q3 : 0 ≤ d.hi - d.lo := by omega
              have q4 : d.hi - d.lo ≤ 2048 := by omega
              have q5 : ¬ d7.lo < 0 := by omega
              have q6 : ¬ (N : Int) < d7.hi := by omega
              rcases hcase with hcase | hcase
              · have r1 : (d7.hi - d7.lo != (d.hi - d.lo) / 2) = false := by simp; omega
                clear hcase
                go_wp2_with fail
                go_roundw
                case rel => exact ⟨m + 1, d7, A7, c7, rfl, by go_num, HM1.out, MI7.out, gb8, sl8, NE7.out, f8⟩
                case measure => simp [intOf]; omega
              · have r1 : (d7.hi - d7.lo != (d.hi - d.lo) - (d.hi - d.lo) / 2) = false := by simp; omega
                clear hcase
                go_wp2_with fail
                all_goals
                  go_roundw
                  case rel => exact ⟨m + 1, d7, A7, c7, rfl, by go_num, HM1.out, MI7.out, gb8, sl8, NE7.out, f8⟩
                  case measure => simp [intOf]; omega
            · repeat (first | (refine wpC_quiet (v := ?_) rfl (by rfl) ?_ ?_; rotate_left; (· (intro w' hw'; go_simp; try with_reducible rfl)); simp only [Act.put, List.setIfInBounds_toArray, List.set_cons_zero, List.set_cons_succ]) | (refine wpC_val (v := ?_) (fun _ => trivial) rfl (by rfl) ?_ ?_; rotate_left; (· (go_simp; try with_reducible rfl)); simp only [Act.put, List.setIfInBounds_toArray, List.set_cons_zero, List.set_cons_succ]) | (refine wpC_skip rfl (by rfl) ?_; simp only [Act.put, List.setIfInBounds_toArray, List.set_cons_zero, List.set_cons_succ]) | (refine wpC_skip' (fun _ => trivial) rfl (by rfl) ?_; simp only [Act.put, List.setIfInBounds_toArray, List.set_cons_zero, List.set_cons_succ]))
              refine wpC_load_f (fun _ => trivial) rfl (by rfl) _ _ rfl w3.heap.size 0 rfl (gcells (.slice A5 N c5) (midG d (one_ y))) _ gb6d.blk.range Try.underlying41 rfl (info_game hl5) ?_
              simp only [Act.put, List.setIfInBounds_toArray, List.set_cons_zero, List.set_cons_succ]
              repeat (first | (refine wpC_quiet (v := ?_) rfl (by rfl) ?_ ?_; rotate_left; (· (intro w' hw'; go_simp; try with_reducible rfl)); simp only [Act.put, List.setIfInBounds_toArray, List.set_cons_zero, List.set_cons_succ]) | (refine wpC_val (v := ?_) (fun _ => trivial) rfl (by rfl) ?_ ?_; rotate_left; (· (go_simp; try with_reducible rfl)); simp only [Act.put, List.setIfInBounds_toArray, List.set_cons_zero, List.set_cons_succ]) | (refine wpC_skip rfl (by rfl) ?_; simp only [Act.put, List.setIfInBounds_toArray, List.set_cons_zero, List.set_cons_succ]) | (refine wpC_skip' (fun _ => trivial) rfl (by rfl) ?_; simp only [Act.put, List.setIfInBounds_toArray, List.set_cons_zero, List.set_cons_succ]))
              (refine wpC_loud rfl (by rfl) ?_; intro K hK; go_simp)
              refine (choose_any A5 N c5 (hashL N) (midG d (one_ y)) hl5 rb 0 _ sl6d (by omega) mv1 mv2 b1 (by show d.lo ≤ d.hi; omega) (by show d.hi ≤ _; omega)).mono ?_
              rw [minv_choose d (one_ y) rb]
              rintro e w7 ⟨A7, c7, rfl, sl7, hb7, fr7⟩
              (refine hK.out _ _ (trivial) ?_; clear hK K; try simp only [Act.put, List.setIfInBounds_toArray, List.set_cons_zero, List.set_cons_succ])
              have gb7 := gb6d.to hb7
              have f7 := f6d.trans (hb7.mono f6d.size)
              have sz7 := gb6d.lt
              clear gb6d f6d sl6d hb7
              obtain ⟨mi7, h27, hcase⟩ := minv_next MI.out H3.out (one_ y) (one_len y) rb
              have hl7 := mi7.len
              repeat (first | (refine wpC_quiet (v := ?_) rfl (by rfl) ?_ ?_; rotate_left; (· (intro w' hw'; go_simp; try with_reducible rfl)); simp only [Act.put, List.setIfInBounds_toArray, List.set_cons_zero, List.set_cons_succ]) | (refine wpC_val (v := ?_) (fun _ => trivial) rfl (by rfl) ?_ ?_; rotate_left; (· (go_simp; try with_reducible rfl)); simp only [Act.put, List.setIfInBounds_toArray, List.set_cons_zero, List.set_cons_succ]) | (refine wpC_skip rfl (by rfl) ?_; simp only [Act.put, List.setIfInBounds_toArray, List.set_cons_zero, List.set_cons_succ]) | (refine wpC_skip' (fun _ => trivial) rfl (by rfl) ?_; simp only [Act.put, List.setIfInBounds_toArray, List.set_cons_zero, List.set_cons_succ]))
              refine wpC_store_fld rfl (by rfl) _ _ _ rfl w3.heap.size 0 41 _ (gcells (.slice A7 N c7) (nextG d (one_ y) rb)) rfl _ rfl rfl gb7.blk (by rw [gcells_len gb7.len, gcells_len hl7]; omega) (info_game hl7) (gcells_one rfl) (fun _ _ => trivial) ?_
              intro w8 bz8 bu8
              rw [put_all _ _ (by rw [gcells_len gb7.len, gcells_len hl7])] at bz8
              have gb8 : GB 41 w8 w3.heap.size (.slice A7 N c7) (nextG d (one_ y) rb) := ⟨bz8, hl7⟩
              have f8 := f7.trans (below_but bu8 hg f7.size)
              have hgd := gb7.lt
              have sl8 := sl7.but2 bu8 (fun b hb h => by injection h with h; have := fr7 b hb; omega)
              clear bz8 bu8 gb7 f7 sl7
              simp only [Act.put, List.setIfInBounds_toArray, List.set_cons_zero, List.set_cons_succ]
              repeat (first | (refine wpC_quiet (v := ?_) rfl (by rfl) ?_ ?_; rotate_left; (· (intro w' hw'; go_simp; try with_reducible rfl)); simp only [Act.put, List.setIfInBounds_toArray, List.set_cons_zero, List.set_cons_succ]) | (refine wpC_val (v := ?_) (fun _ => trivial) rfl (by rfl) ?_ ?_; rotate_left; (· (go_simp; try with_reducible rfl)); simp only [Act.put, List.setIfInBounds_toArray, List.set_cons_zero, List.set_cons_succ]) | (refine wpC_skip rfl (by rfl) ?_; simp only [Act.put, List.setIfInBounds_toArray, List.set_cons_zero, List.set_cons_succ]) | (refine wpC_skip' (fun _ => trivial) rfl (by rfl) ?_; simp only [Act.put, List.setIfInBounds_toArray, List.set_cons_zero, List.set_cons_succ]))
              refine wpC_nil ?_
              have hm1 : m + 1 = 0 ∨ 2 ^ (m + 1 - 1) < N := .inr (minv_more MI.out h27)
              have HM1 := Lib.hid hm1
              have MI7 := Lib.hid mi7
              have e1 := gb8.c1
              have e2' := gb8.c2
              have g1 := mi7.lo
              have g2 := mi7.lt
              have g3 := mi7.hi
              have NE7 : Hid (∀ b, A7.map (·.block) = some b → b ≠ w3.heap.size) := fun b hb => by have := fr7 b hb; omega
              clear hm1 mi7 d99 e99
              generalize nextG d (one_ y) rb = d7 at *
              have q1 : 0 ≤ d7.hi - d7.lo := by omega
              have q2 : d7.hi - d7.lo ≤ 2048 := by omega
              have q3 : 0 ≤ d.hi - d.lo := by omega
              have q4 : d.hi - d.lo ≤ 2048 := by omega
              have q5 : ¬ d7.lo < 0 := by omega
              have q6 : ¬ (N : Int) < d7.hi := by omega
              rcases hcase with hcase | hcase
              · have r1 : (d7.hi - d7.lo != (d.hi - d.lo) / 2) = false := by simp; omega
                clear hcase
                go_wp2_with fail
                go_roundw
                case rel => exact ⟨m + 1, d7, A7, c7, rfl, by go_num, HM1.out, MI7.out, gb8, sl8, NE7.out, f8⟩
                case measure => simp [intOf]; omega
              · have r1 : (d7.hi - d7.lo != (d.hi - d.lo) - (d.hi - d.lo) / 2) = false := by simp; omega
                clear hcase
                go_wp2_with fail
                all_goals
                  go_roundw
                  case rel => exact ⟨m + 1, d7, A7, c7, rfl, by go_num, HM1.out, MI7.out, gb8, sl8, NE7.out, f8⟩
                  case measure => simp [intOf]; omega
          · have tk : ¬ (m : Int) < (nr : Int) := by omega
            refine wp_region_T [1, 2, 3, 4, 5, 6, 7, 8] 0 9 [(9, false), (10, false), (11, false), (12, false), (13, true), (14, true), (15, false), (16, false)] [(10, true), (0, false), (11, false), (12, false), (13, true), (14, true), (15, false), (16, false)] (fun _ _ => True) (by kernel_rfl) (by kernel_rfl) (by kernel_rfl) (by decide) (by decide) (fun _ => trivial) (fun _ _ _ _ _ => trivial) (by intro d v c a w h; cases d <;> exact h) ?_
            have gb6d : GB 41 w6.drew w3.heap.size (.slice A5 N c5) (midG d (one_ y)) := ⟨gb6.blk, gb6.len⟩
            have f6d := f6.drew
            have sl6d := sl6.drew
            have e99 := gb6d.c99
            clear gb6 f6 sl6
            generalize w6.drew = wd at *
            repeat (first | (refine wpT_quiet (v := ?_) rfl (by rfl) ?_ ?_; rotate_left; (· (intro w' hw'; go_simp; try with_reducible rfl)); simp only [Act.put, List.setIfInBounds_toArray, List.set_cons_zero, List.set_cons_succ]) | (refine wpT_skip rfl (by rfl) ?_; simp only [Act.put, List.setIfInBounds_toArray, List.set_cons_zero, List.set_cons_succ]))
            refine wpT_nil ?_ ?_
            · refine wpC_load_f (fun _ => trivial) rfl (by rfl) _ _ rfl w3.heap.size 0 rfl (gcells (.slice A5 N c5) (midG d (one_ y))) _ gb6d.blk.range Try.underlying41 rfl (info_game hl5) ?_
              simp only [Act.put, List.setIfInBounds_toArray, List.set_cons_zero, List.set_cons_succ]
              repeat (first | (refine wpC_quiet (v := ?_) rfl (by rfl) ?_ ?_; rotate_left; (· (intro w' hw'; go_simp; try with_reducible rfl)); simp only [Act.put, List.setIfInBounds_toArray, List.set_cons_zero, List.set_cons_succ]) | (refine wpC_val (v := ?_) (fun _ => trivial) rfl (by rfl) ?_ ?_; rotate_left; (· (go_simp; try with_reducible rfl)); simp only [Act.put, List.setIfInBounds_toArray, List.set_cons_zero, List.set_cons_succ]) | (refine wpC_skip rfl (by rfl) ?_; simp only [Act.put, List.setIfInBounds_toArray, List.set_cons_zero, List.set_cons_succ]) | (refine wpC_skip' (fun _ => trivial) rfl (by rfl) ?_; simp only [Act.put, List.setIfInBounds_toArray, List.set_cons_zero, List.set_cons_succ]))
              (refine wpC_loud rfl (by rfl) ?_; intro K hK; go_simp)
              refine (choose_any A5 N c5 (hashL N) (midG d (one_ y)) hl5 false 0 _ sl6d (by omega) mv1 mv2 b1 (by show d.lo ≤ d.hi; omega) (by show d.hi ≤ _; omega)).mono ?_
              rw [minv_choose d (one_ y) false]
              rintro e w7 ⟨A7, c7, rfl, sl7, hb7, fr7⟩
              (refine hK.out _ _ (trivial) ?_; clear hK K; try simp only [Act.put, List.setIfInBounds_toArray, List.set_cons_zero, List.set_cons_succ])
              have gb7 := gb6d.to hb7
              have f7 := f6d.trans (hb7.mono f6d.size)
              have sz7 := gb6d.lt
              clear gb6d f6d sl6d hb7
              obtain ⟨mi7, h27, hcase⟩ := minv_next MI.out H3.out (one_ y) (one_len y) false
              have hl7 := mi7.len
              repeat (first | (refine wpC_quiet (v := ?_) rfl (by rfl) ?_ ?_; rotate_left; (· (intro w' hw'; go_simp; try with_reducible rfl)); simp only [Act.put, List.setIfInBounds_toArray, List.set_cons_zero, List.set_cons_succ]) | (refine wpC_val (v := ?_) (fun _ => trivial) rfl (by rfl) ?_ ?_; rotate_left; (· (go_simp; try with_reducible rfl)); simp only [Act.put, List.setIfInBounds_toArray, List.set_cons_zero, List.set_cons_succ]) | (refine wpC_skip rfl (by rfl) ?_; simp only [Act.put, List.setIfInBounds_toArray, List.set_cons_zero, List.set_cons_succ]) | (refine wpC_skip' (fun _ => trivial) rfl (by rfl) ?_; simp only [Act.put, List.setIfInBounds_toArray, List.set_cons_zero, List.set_cons_succ]))
              refine wpC_store_fld rfl (by rfl) _ _ _ rfl w3.heap.size 0 41 _ (gcells (.slice A7 N c7) (nextG d (one_ y) false)) rfl _ rfl rfl gb7.blk (by rw [gcells_len gb7.len, gcells_len hl7]; omega) (info_game hl7) (gcells_one rfl) (fun _ _ => trivial) ?_
              intro w8 bz8 bu8
              rw [put_all _ _ (by rw [gcells_len gb7.len, gcells_len hl7])] at bz8
              have gb8 : GB 41 w8 w3.heap.size (.slice A7 N c7) (nextG d (one_ y) false) := ⟨bz8, hl7⟩
              have f8 := f7.trans (below_but bu8 hg f7.size)
              have hgd := gb7.lt
              have sl8 := sl7.but2 bu8 (fun b hb h => by injection h with h; have := fr7 b hb; omega)
              clear bz8 bu8 gb7 f7 sl7
              simp only [Act.put, List.setIfInBounds_toArray, List.set_cons_zero, List.set_cons_succ]
              repeat (first | (refine wpC_quiet (v := ?_) rfl (by rfl) ?_ ?_; rotate_left; (· (intro w' hw'; go_simp; try with_reducible rfl)); simp only [Act.put, List.setIfInBounds_toArray, List.set_cons_zero, List.set_cons_succ]) | (refine wpC_val (v := ?_) (fun _ => trivial) rfl (by rfl) ?_ ?_; rotate_left; (· (go_simp; try with_reducible rfl)); simp only [Act.put, List.setIfInBounds_toArray, List.set_cons_zero, List.set_cons_succ]) | (refine wpC_skip rfl (by rfl) ?_; simp only [Act.put, List.setIfInBounds_toArray, List.set_cons_zero, List.set_cons_succ]) | (refine wpC_skip' (fun _ => trivial) rfl (by rfl) ?_; simp only [Act.put, List.setIfInBounds_toArray, List.set_cons_zero, List.set_cons_succ]))
              refine wpC_nil ?_
              have hm1 : m + 1 = 0 ∨ 2 ^ (m + 1 - 1) < N := .inr (minv_more MI.out h27)
              have HM1 := Lib.hid hm1
              have MI7 := Lib.hid mi7
              have e1 := gb8.c1
              have e2' := gb8.c2
              have g1 := mi7.lo
              have g2 := mi7.lt
              have g3 := mi7.hi
              have NE7 : Hid (∀ b, A7.map (·.block) = some b → b ≠ w3.heap.size) := fun b hb => by have := fr7 b hb; omega
              clear hm1 mi7 d99 e99
              generalize nextG d (one_ y) false = d7 at *
              have q1 : 0 ≤ d7.hi - d7.lo := by omega
              have q2 : d7.hi - d7.lo ≤ 2048 := by omega
              have q3 : 0 ≤ d.hi - d.lo := by omega
              have q4 : d.hi - d.lo ≤ 2048 := by omega
              have q5 : ¬ d7.lo < 0 := by omega
              have q6 : ¬ (N : Int) < d7.hi := by omega
              rcases hcase with hcase | hcase
              · have r1 : (d7.hi - d7.lo != (d.hi - d.lo) / 2) = false := by simp; omega
                clear hcase
                go_wp2_with fail
                go_roundw
                case rel => exact ⟨m + 1, d7, A7, c7, rfl, by go_num, HM1.out, MI7.out, gb8, sl8, NE7.out, f8⟩
                case measure => simp [intOf]; omega
              · have r1 : (d7.hi - d7.lo != (d.hi - d.lo) - (d.hi - d.lo) / 2) = false := by simp; omega
                clear hcase
                go_wp2_with fail
                all_goals
                  go_roundw
                  case rel => exact ⟨m + 1, d7, A7, c7, rfl, by go_num, HM1.out, MI7.out, gb8, sl8, NE7.out, f8⟩
                  case measure => simp [intOf]; omega
            · repeat (first | (refine wpC_quiet (v := ?_) rfl (by rfl) ?_ ?_; rotate_left; (· (intro w' hw'; go_simp; try with_reducible rfl)); simp only [Act.put, List.setIfInBounds_toArray, List.set_cons_zero, List.set_cons_succ]) | (refine wpC_val (v := ?_) (fun _ => trivial) rfl (by rfl) ?_ ?_; rotate_left; (· (go_simp; try with_reducible rfl)); simp only [Act.put, List.setIfInBounds_toArray, List.set_cons_zero, List.set_cons_succ]) | (refine wpC_skip rfl (by rfl) ?_; simp only [Act.put, List.setIfInBounds_toArray, List.set_cons_zero, List.set_cons_succ]) | (refine wpC_skip' (fun _ => trivial) rfl (by rfl) ?_; simp only [Act.put, List.setIfInBounds_toArray, List.set_cons_zero, List.set_cons_succ]))
              refine wpC_load_f (fun _ => trivial) rfl (by rfl) _ _ rfl w3.heap.size 0 rfl (gcells (.slice A5 N c5) (midG d (one_ y))) _ gb6d.blk.range Try.underlying41 rfl (info_game hl5) ?_
              simp only [Act.put, List.setIfInBounds_toArray, List.set_cons_zero, List.set_cons_succ]
              repeat (first | (refine wpC_quiet (v := ?_) rfl (by rfl) ?_ ?_; rotate_left; (· (intro w' hw'; go_simp; try with_reducible rfl)); simp only [Act.put, List.setIfInBounds_toArray, List.set_cons_zero, List.set_cons_succ]) | (refine wpC_val (v := ?_) (fun _ => trivial) rfl (by rfl) ?_ ?_; rotate_left; (· (go_simp; try with_reducible rfl)); simp only [Act.put, List.setIfInBounds_toArray, List.set_cons_zero, List.set_cons_succ]) | (refine wpC_skip rfl (by rfl) ?_; simp only [Act.put, List.setIfInBounds_toArray, List.set_cons_zero, List.set_cons_succ]) | (refine wpC_skip' (fun _ => trivial) rfl (by rfl) ?_; simp only [Act.put, List.setIfInBounds_toArray, List.set_cons_zero, List.set_cons_succ]))
              (refine wpC_loud rfl (by rfl) ?_; intro K hK; go_simp)
              refine (choose_any A5 N c5 (hashL N) (midG d (one_ y)) hl5 false 0 _ sl6d (by omega) mv1 mv2 b1 (by show d.lo ≤ d.hi; omega) (by show d.hi ≤ _; omega)).mono ?_
              rw [minv_choose d (one_ y) false]
              rintro e w7 ⟨A7, c7, rfl, sl7, hb7, fr7⟩
              (refine hK.out _ _ (trivial) ?_; clear hK K; try simp only [Act.put, List.setIfInBounds_toArray, List.set_cons_zero, List.set_cons_succ])
              have gb7 := gb6d.to hb7
              have f7 := f6d.trans (hb7.mono f6d.size)
              have sz7 := gb6d.lt
              clear gb6d f6d sl6d hb7
              obtain ⟨mi7, h27, hcase⟩ := minv_next MI.out H3.out (one_ y) (one_len y) false
              have hl7 := mi7.len
              repeat (first | (refine wpC_quiet (v := ?_) rfl (by rfl) ?_ ?_; rotate_left; (· (intro w' hw'; go_simp; try with_reducible rfl)); simp only [Act.put, List.setIfInBounds_toArray, List.set_cons_zero, List.set_cons_succ]) | (refine wpC_val (v := ?_) (fun _ => trivial) rfl (by rfl) ?_ ?_; rotate_left; (· (go_simp; try with_reducible rfl)); simp only [Act.put, List.setIfInBounds_toArray, List.set_cons_zero, List.set_cons_succ]) | (refine wpC_skip rfl (by rfl) ?_; simp only [Act.put, List.setIfInBounds_toArray, List.set_cons_zero, List.set_cons_succ]) | (refine wpC_skip' (fun _ => trivial) rfl (by rfl) ?_; simp only [Act.put, List.setIfInBounds_toArray, List.set_cons_zero, List.set_cons_succ]))
              refine wpC_store_fld rfl (by rfl) _ _ _ rfl w3.heap.size 0 41 _ (gcells (.slice A7 N c7) (nextG d (one_ y) false)) rfl _ rfl rfl gb7.blk (by rw [gcells_len gb7.len, gcells_len hl7]; omega) (info_game hl7) (gcells_one rfl) (fun _ _ => trivial) ?_
              intro w8 bz8 bu8
              rw [put_all _ _ (by rw [gcells_len gb7.len, gcells_len hl7])] at bz8
              have gb8 : GB 41 w8 w3.heap.size (.slice A7 N c7) (nextG d (one_ y) false) := ⟨bz8, hl7⟩
              have f8 := f7.trans (below_but bu8 hg f7.size)
              have hgd := gb7.lt
              have sl8 := sl7.but2 bu8 (fun b hb h => by injection h with h; have := fr7 b hb; omega)
              clear bz8 bu8 gb7 f7 sl7
              simp only [Act.put, List.setIfInBounds_toArray, List.set_cons_zero, List.set_cons_succ]
              repeat (first | (refine wpC_quiet (v := ?_) rfl (by rfl) ?_ ?_; rotate_left; (· (intro w' hw'; go_simp; try with_reducible rfl)); simp only [Act.put, List.setIfInBounds_toArray, List.set_cons_zero, List.set_cons_succ]) | (refine wpC_val (v := ?_) (fun _ => trivial) rfl (by rfl) ?_ ?_; rotate_left; (· (go_simp; try with_reducible rfl)); simp only [Act.put, List.setIfInBounds_toArray, List.set_cons_zero, List.set_cons_succ]) | (refine wpC_skip rfl (by rfl) ?_; simp only [Act.put, List.setIfInBounds_toArray, List.set_cons_zero, List.set_cons_succ]) | (refine wpC_skip' (fun _ => trivial) rfl (by rfl) ?_; simp only [Act.put, List.setIfInBounds_toArray, List.set_cons_zero, List.set_cons_succ]))
              refine wpC_nil ?_
              have hm1 : m + 1 = 0 ∨ 2 ^ (m + 1 - 1) < N := .inr (minv_more MI.out h27)
              have HM1 := Lib.hid hm1
              have MI7 := Lib.hid mi7
              have e1 := gb8.c1
              have e2' := gb8.c2
              have g1 := mi7.lo
              have g2 := mi7.lt
              have g3 := mi7.hi
              have NE7 : Hid (∀ b, A7.map (·.block) = some b → b ≠ w3.heap.size) := fun b hb => by have := fr7 b hb; omega
              clear hm1 mi7 d99 e99
              generalize nextG d (one_ y) false = d7 at *
              have q1 : 0 ≤ d7.hi - d7.lo := by omega
              have q2 : d7.hi - d7.lo ≤ 2048 := by omega
              have q3 : 0 ≤ d.hi - d.lo := by omega
              have q4 : d.hi - d.lo ≤ 2048 := by omega
              have q5 : ¬ d7.lo < 0 := by omega
              have q6 : ¬ (N : Int) < d7.hi := by omega
              rcases hcase with hcase | hcase
              · have r1 : (d7.hi - d7.lo != (d.hi - d.lo) / 2) = false := by simp; omega
                clear hcase
                go_wp2_with fail
                go_roundw
                case rel => exact ⟨m + 1, d7, A7, c7, rfl, by go_num, HM1.out, MI7.out, gb8, sl8, NE7.out, f8⟩
                case measure => simp [intOf]; omega
              · have r1 : (d7.hi - d7.lo != (d.hi - d.lo) - (d.hi - d.lo) / 2) = false := by simp; omega
                clear hcase
                go_wp2_with fail
                all_goals
                  go_roundw
                  case rel => exact ⟨m + 1, d7, A7, c7, rfl, by go_num, HM1.out, MI7.out, gb8, sl8, NE7.out, f8⟩
                  case measure => simp [intOf]; omega
end Go.Proofs.Ytaaiembhdfgkjaa
