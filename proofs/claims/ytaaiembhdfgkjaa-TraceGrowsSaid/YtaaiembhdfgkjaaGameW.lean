/- Walks: a game's small functions: clock, turn, may, moved, own. -/
import Derived.Test.YtaaiembhdfgkjaaGame
import Derived.Test.YtaaiembhdfgkjaaProg
namespace Go.Proofs.Ytaaiembhdfgkjaa
open Go.RowKit
theorem elH : El Try.prog 30 26 32 32 := El.mk' (z := .agg #[.int .u8 0, .int .u8 0, .int .u8 0, .int .u8 0, .int .u8 0, .int .u8 0, .int .u8 0, .int .u8 0, .int .u8 0, .int .u8 0, .int .u8 0, .int .u8 0, .int .u8 0, .int .u8 0, .int .u8 0, .int .u8 0, .int .u8 0, .int .u8 0, .int .u8 0, .int .u8 0, .int .u8 0, .int .u8 0, .int .u8 0, .int .u8 0, .int .u8 0, .int .u8 0, .int .u8 0, .int .u8 0, .int .u8 0, .int .u8 0, .int .u8 0, .int .u8 0]) Try.underlying30 (by kernel_rfl) rfl (by decide)
theorem info_game {v : Value} {d : GD} (h : GLen d) : (Try.prog.info? 41).map (·.size) = some (gcells v d).length := by rw [gcells_len h]; kernel_rfl
def clockB (n : Int) : Prop := 0 ≤ n ∧ n ≤ 1099511627776
theorem clock_yes (n : Int) (w : World) (h : clockB n) : Calls Try.prog 43 #[.int .i64 n] w fun e w' => e = .returned (.bool true) ∧ w = w' := by
  obtain ⟨h1, h2⟩ := h
  go_enter Try.func43, Try.ntmps43
  go_wp2
  go_ret
  exact ⟨rfl, rfl⟩
theorem clock_no (n : Int) (w : World) (h : ¬ clockB n) : Calls Try.prog 43 #[.int .i64 n] w fun e w' => e = .returned (.bool false) ∧ w = w' := by
  unfold clockB at h
  by_cases h1 : 0 ≤ n
  · have h2 : ¬ n ≤ 1099511627776 := by omega
    clear h
    go_enter Try.func43, Try.ntmps43
    go_wp2
    go_ret
    exact ⟨rfl, rfl⟩
  · clear h
    go_enter Try.func43, Try.ntmps43
    go_wp2
    go_ret
    exact ⟨rfl, rfl⟩
/-- A call that hands back a game. -/
def RGv (w : World) (v : Value) (d : GD) (en : Ending) (w' : World) : Prop := en = .returned (gval v d) ∧ Below w.heap.size w w'
def movedD (d : GD) (now : Int) : GD := { d with moves := d.moves + 1, limit := now + 3 }
def turnD (d : GD) : GD := { d with turn := if d.hi - d.lo = 1 then 3 else 1 }
def overD (d : GD) (won : Bool) : GD := { d with turn := 4, won := won, cl := if won then 200 else 0, ref := if won then 0 else 200 }
set_option maxRecDepth 100000
theorem one_int {k : IntKind} {z : Int} : ∀ u ∈ [Value.int k z], u.oneCell' = true := by intro u hu; simp at hu; subst hu; rfl
theorem one_bool {z : Bool} : ∀ u ∈ [Value.bool z], u.oneCell' = true := by intro u hu; simp at hu; subst hu; rfl
theorem zero_len : Try.zeroCells41.toList.length = 105 := by kernel_rfl
theorem info_g : (Try.prog.info? 41).map (·.size) = some 105 := by kernel_rfl
/-- a game is boxed, beside a block for what is handed back -/
theorem box_game (w : World) (v : Value) (d : GD) (hd : GLen d) : ∃ W, Hid (W = (w.alloc (.cells (gcells v d).toArray 41)).alloc (.cells Try.zeroCells41 41)) ∧ Below w.heap.size w W ∧ GB 41 W w.heap.size v d ∧
    Blk W (w.heap.size + 1) 41 Try.zeroCells41.toList := by
  refine ⟨_, rfl, ((Below.refl _ _).alloc (Nat.le_refl _) _).alloc (by simp) _, ⟨(Blk.new w (gcells v d).toArray 41).to ((Below.refl _ _).alloc (Nat.le_refl _) _), hd⟩, ?_⟩
  have := Blk.new (w.alloc (.cells (gcells v d).toArray 41)) Try.zeroCells41 41
  simpa using this
theorem moved_any (v : Value) (hv : v.oneCell' = true) (d : GD) (hd : GLen d) (now : Int) (w : World) (h1 : 0 ≤ d.moves) (h2 : d.moves ≤ 1099511627776) (h3 : -1099511627776 ≤ now) (h4 : now ≤ 1099511627776) :
    Calls Try.prog 48 #[gval v d, .int .i64 now] w (RGv w v (movedD d now)) := by
  obtain ⟨W, HW, hbw, gb, zb⟩ := box_game w v d hd
  unfold gval
  go_enter Try.func48, Try.ntmps48
  go_upto_region 1 with fail
  refine wp_at HW.out ?_
  clear HW
  have c100 := gb.c100
  go_wp2_with (first
    | (refine wpl_gset gb 100 (p_moves gb.len _) (by exact ⟨gb.len.1, gb.len.2, gb.len.3⟩) (by decide) (by rfl) _ _ _ rfl rfl rfl rfl (by kernel_rfl) rfl ?_
       intro w1 gb1 bu1
       clear c100)
    | (refine wpl_gset gb1 101 (p_limit gb1.len _) (by exact ⟨gb.len.1, gb.len.2, gb.len.3⟩) (by decide) (by rfl) _ _ _ rfl rfl rfl rfl (by kernel_rfl) rfl ?_
       intro w2 gb2 bu2)
    | (refine wpl_gload gb2 (by rfl) _ _ rfl rfl _ Try.underlying41 rfl info_g ?_)
    | (refine wpl_gput ((zb.but bu1 (by simp)).but bu2 (by simp)) zero_len gb2.len hv (by rfl) _ _ _ rfl rfl rfl info_g ?_
       intro w3 gb3 bu3))
  refine bodyPost_ret (v := gval v (movedD d now)) (results_blk Try.results48 rfl gb3.blk Try.underlying41 rfl (info_game gb3.len)) rfl ⟨rfl, ?_⟩
  have f1 := below_but (B := w.heap.size) bu1 (Nat.le_refl _) hbw.size
  have e1 := hbw.trans f1
  have e2 := e1.trans (below_but bu2 (Nat.le_refl _) e1.size)
  exact e2.trans (below_but bu3 (Nat.le_succ _) e2.size)
theorem turn_any (v : Value) (hv : v.oneCell' = true) (d : GD) (hd : GLen d) (w : World) (h1 : -1099511627776 ≤ d.lo) (h2 : d.lo ≤ 1099511627776) (h3 : -1099511627776 ≤ d.hi) (h4 : d.hi ≤ 1099511627776) :
    Calls Try.prog 45 #[gval v d] w (RGv w v (turnD d)) := by
  obtain ⟨W, HW, hbw, gb, zb⟩ := box_game w v d hd
  obtain ⟨q, hq, hq2⟩ : ∃ q : Int, Hid (turnD d = { d with turn := q }) ∧ ((q = 3 ∧ ((d.hi - d.lo) == 1) = true) ∨ (q = 1 ∧ ((d.hi - d.lo) == 1) = false)) := by
    by_cases h : d.hi - d.lo = 1
    · exact ⟨3, (by show _ = _; unfold turnD; rw [if_pos h]), .inl ⟨rfl, by simpa using h⟩⟩
    · exact ⟨1, (by show _ = _; unfold turnD; rw [if_neg h]), .inr ⟨rfl, by simpa using h⟩⟩
  rw [hq.out]
  clear hq
  unfold gval
  rcases hq2 with ⟨rfl, t1⟩ | ⟨rfl, t1⟩
  · go_enter Try.func45, Try.ntmps45
    go_upto_region 1 with fail
    refine wp_at HW.out ?_
    clear HW
    go_wp2_with (first
      | (refine wpl_gset gb 99 (p_turn gb.len _) (by exact ⟨gb.len.1, gb.len.2, gb.len.3⟩) (by decide) (by rfl) _ _ _ rfl rfl rfl rfl (by kernel_rfl) rfl ?_
         intro w1 gb1 bu1
         have c1 := gb1.c1
         have c2 := gb1.c2
         dsimp only at c1 c2)
      | (refine wpl_gset gb1 99 (p_turn gb1.len _) (by exact ⟨gb1.len.1, gb1.len.2, gb1.len.3⟩) (by decide) (by rfl) _ _ _ rfl rfl rfl rfl (by kernel_rfl) rfl ?_
         intro w2 gb2 bu2)
      | (refine wpl_gload gb2 (by rfl) _ _ rfl rfl _ Try.underlying41 rfl info_g ?_)
      | (refine wpl_gput ((zb.but bu1 (by simp)).but bu2 (by simp)) zero_len gb2.len hv (by rfl) _ _ _ rfl rfl rfl info_g ?_
         intro w3 gb3 bu3))
    refine bodyPost_ret (v := gval v { d with turn := 3 }) (results_blk Try.results45 rfl gb3.blk Try.underlying41 rfl (info_game gb3.len)) rfl ⟨rfl, ?_⟩
    have e1 := hbw.trans (below_but (B := w.heap.size) bu1 (Nat.le_refl _) hbw.size)
    have e2 := e1.trans (below_but bu2 (Nat.le_refl _) e1.size)
    exact e2.trans (below_but bu3 (Nat.le_succ _) e2.size)
  · go_enter Try.func45, Try.ntmps45
    go_upto_region 1 with fail
    refine wp_at HW.out ?_
    clear HW
    go_wp2_with (first
      | (refine wpl_gset gb 99 (p_turn gb.len _) (by exact ⟨gb.len.1, gb.len.2, gb.len.3⟩) (by decide) (by rfl) _ _ _ rfl rfl rfl rfl (by kernel_rfl) rfl ?_
         intro w1 gb1 bu1
         have c1 := gb1.c1
         have c2 := gb1.c2
         dsimp only at c1 c2)
      | (refine wpl_gload gb1 (by rfl) _ _ rfl rfl _ Try.underlying41 rfl info_g ?_)
      | (refine wpl_gput (zb.but bu1 (by simp)) zero_len gb1.len hv (by rfl) _ _ _ rfl rfl rfl info_g ?_
         intro w3 gb3 bu3))
    refine bodyPost_ret (v := gval v { d with turn := 1 }) (results_blk Try.results45 rfl gb3.blk Try.underlying41 rfl (info_game gb3.len)) rfl ⟨rfl, ?_⟩
    have e1 := hbw.trans (below_but (B := w.heap.size) bu1 (Nat.le_refl _) hbw.size)
    exact e1.trans (below_but bu3 (Nat.le_succ _) e1.size)
theorem over_any (v : Value) (hv : v.oneCell' = true) (d : GD) (hd : GLen d) (won : Bool) (w : World) :
    Calls Try.prog 51 #[gval v d, .bool won] w (RGv w v (overD d won)) := by
  obtain ⟨W, HW, hbw, gb, zb⟩ := box_game w v d hd
  unfold gval
  cases won
  · go_enter Try.func51, Try.ntmps51
    go_upto_region 1 with fail
    refine wp_at HW.out ?_
    clear HW
    go_wp2_with (first
      | (refine wpl_gset gb 99 (p_turn gb.len _) (by exact ⟨gb.len.1, gb.len.2, gb.len.3⟩) (by decide) (by rfl) _ _ _ rfl rfl rfl rfl (by kernel_rfl) rfl ?_
         intro w1 gb1 bu1)
      | (refine wpl_gset gb1 102 (p_won gb1.len _) (by exact ⟨gb1.len.1, gb1.len.2, gb1.len.3⟩) (by decide) (by rfl) _ _ _ rfl rfl rfl rfl (by kernel_rfl) rfl ?_
         intro w2 gb2 bu2)
      | (refine wpl_gset gb2 103 (p_cl gb2.len _) (by exact ⟨gb2.len.1, gb2.len.2, gb2.len.3⟩) (by decide) (by rfl) _ _ _ rfl rfl rfl rfl (by kernel_rfl) rfl ?_
         intro w3 gb3 bu3)
      | (refine wpl_gset gb3 104 (p_ref gb3.len _) (by exact ⟨gb3.len.1, gb3.len.2, gb3.len.3⟩) (by decide) (by rfl) _ _ _ rfl rfl rfl rfl (by kernel_rfl) rfl ?_
         intro w4 gb4 bu4
         have c103 := gb4.c103
         dsimp only at c103)
      | (refine wpl_gload gb4 (by rfl) _ _ rfl rfl _ Try.underlying41 rfl info_g ?_)
      | (refine wpl_gput ((((zb.but bu1 (by simp)).but bu2 (by simp)).but bu3 (by simp)).but bu4 (by simp)) zero_len gb4.len hv (by rfl) _ _ _ rfl rfl rfl info_g ?_
         intro w7 gb7 bu7))
    refine bodyPost_ret (v := gval v (overD d false)) (results_blk Try.results51 rfl gb7.blk Try.underlying41 rfl (info_game gb7.len)) rfl ⟨rfl, ?_⟩
    have e1 := hbw.trans (below_but (B := w.heap.size) bu1 (Nat.le_refl _) hbw.size)
    have e2 := e1.trans (below_but bu2 (Nat.le_refl _) e1.size)
    have e3 := e2.trans (below_but bu3 (Nat.le_refl _) e2.size)
    have e4 := e3.trans (below_but bu4 (Nat.le_refl _) e3.size)
    exact e4.trans (below_but bu7 (Nat.le_succ _) e4.size)
  · go_enter Try.func51, Try.ntmps51
    go_upto_region 1 with fail
    refine wp_at HW.out ?_
    clear HW
    go_wp2_with (first
      | (refine wpl_gset gb 99 (p_turn gb.len _) (by exact ⟨gb.len.1, gb.len.2, gb.len.3⟩) (by decide) (by rfl) _ _ _ rfl rfl rfl rfl (by kernel_rfl) rfl ?_
         intro w1 gb1 bu1)
      | (refine wpl_gset gb1 102 (p_won gb1.len _) (by exact ⟨gb1.len.1, gb1.len.2, gb1.len.3⟩) (by decide) (by rfl) _ _ _ rfl rfl rfl rfl (by kernel_rfl) rfl ?_
         intro w2 gb2 bu2)
      | (refine wpl_gset gb2 103 (p_cl gb2.len _) (by exact ⟨gb2.len.1, gb2.len.2, gb2.len.3⟩) (by decide) (by rfl) _ _ _ rfl rfl rfl rfl (by kernel_rfl) rfl ?_
         intro w3 gb3 bu3)
      | (refine wpl_gset gb3 104 (p_ref gb3.len _) (by exact ⟨gb3.len.1, gb3.len.2, gb3.len.3⟩) (by decide) (by rfl) _ _ _ rfl rfl rfl rfl (by kernel_rfl) rfl ?_
         intro w4 gb4 bu4)
      | (refine wpl_gset gb4 103 (p_cl gb4.len _) (by exact ⟨gb4.len.1, gb4.len.2, gb4.len.3⟩) (by decide) (by rfl) _ _ _ rfl rfl rfl rfl (by kernel_rfl) rfl ?_
         intro w5 gb5 bu5)
      | (refine wpl_gset gb5 104 (p_ref gb5.len _) (by exact ⟨gb5.len.1, gb5.len.2, gb5.len.3⟩) (by decide) (by rfl) _ _ _ rfl rfl rfl rfl (by kernel_rfl) rfl ?_
         intro w6 gb6 bu6)
      | (refine wpl_gload gb6 (by rfl) _ _ rfl rfl _ Try.underlying41 rfl info_g ?_)
      | (refine wpl_gput ((((((zb.but bu1 (by simp)).but bu2 (by simp)).but bu3 (by simp)).but bu4 (by simp)).but bu5 (by simp)).but bu6 (by simp)) zero_len gb6.len hv (by rfl) _ _ _ rfl rfl rfl info_g ?_
         intro w7 gb7 bu7))
    refine bodyPost_ret (v := gval v (overD d true)) (results_blk Try.results51 rfl gb7.blk Try.underlying41 rfl (info_game gb7.len)) rfl ⟨rfl, ?_⟩
    have e1 := hbw.trans (below_but (B := w.heap.size) bu1 (Nat.le_refl _) hbw.size)
    have e2 := e1.trans (below_but bu2 (Nat.le_refl _) e1.size)
    have e3 := e2.trans (below_but bu3 (Nat.le_refl _) e2.size)
    have e4 := e3.trans (below_but bu4 (Nat.le_refl _) e3.size)
    have e5 := e4.trans (below_but bu5 (Nat.le_refl _) e4.size)
    have e6 := e5.trans (below_but bu6 (Nat.le_refl _) e5.size)
    exact e6.trans (below_but bu7 (Nat.le_succ _) e6.size)
theorem H8_one (hs : List (List UInt8)) : ∀ u ∈ H8 hs, u.oneCell' = true := by
  intro u hu
  obtain ⟨h, _, hu⟩ := List.mem_flatMap.1 hu
  exact B8_one _ _ hu
theorem clone_H (A : Option Addr) (n c : Nat) (xs : List Value) (w : World) (h : Sl w 32 A n xs) (h1 : ∀ u ∈ xs, u.oneCell' = true) (hn : n ≤ 4194304) :
    Calls Try.prog 44 #[.slice A n c] w (RSl w 26 32 xs) := by
  have q : ∀ (W : World) (A : Option Addr), (binOp .eql 30 (.slice A n c) (.slice none 0 0)).run Try.prog W = .ok (.bool A.isNone) W := fun W A => Lib.run_eql_slice_nil W _ _ A n c 0 0 Try.underlying30
  rcases A with _ | ad
  · obtain rfl : n = 0 := by
      rcases Nat.eq_zero_or_pos n with h0 | h0
      · exact h0
      · obtain ⟨_, _, h, _⟩ := h.cells h0
        cases h
    obtain rfl : xs = [] := List.eq_nil_of_length_eq_zero (by simpa using h.len)
    go_enter Try.func44, Try.ntmps44
    go_wp2
    go_ret
    exact RSl.mk Own.nil_ (Below.refl _ _)
  · go_enter Try.func44, Try.ntmps44
    go_wp2_with (first
      | (at_builtin
         refine wpl_app _ _ _ _ elH rfl rfl rfl (Own.made w w.heap.size 26 #[] (Nat.le_refl _) (Nat.zero_le _) (by simp)) rfl (h.alloc _) h1 (by omega) (by omega) (by simp) ?_
         intro A' c' w' g))
    go_ret
    refine RSl.mk (by simpa using g.own) ?_
    exact below_grown ((Below.refl _ _).alloc (Nat.le_refl _) _) g.grow (by simp) (by intro k hk; simp at hk; omega)
/-- A call that hands back a game over transactions of its own. -/
def RGo (w : World) (hs : List (List UInt8)) (n : Nat) (d : GD) (en : Ending) (w' : World) : Prop := ∃ A c, en = .returned (gval (.slice A n c) d) ∧ Sl w' 32 A n (H8 hs) ∧ Below w.heap.size w w' ∧ ∀ b, A.map (·.block) = some b → w.heap.size ≤ b
theorem own_any (A : Option Addr) (n c : Nat) (hs : List (List UInt8)) (d : GD) (hd : GLen d) (w : World) (h : Sl w 32 A n (H8 hs)) (hn : n ≤ 4194304) :
    Calls Try.prog 46 #[gval (.slice A n c) d] w (RGo w hs n d) := by
  obtain ⟨W, HW, hbw, gb, zb⟩ := box_game w (.slice A n c) d hd
  have hW := h.to hbw
  unfold gval
  go_enter Try.func46, Try.ntmps46
  go_upto_region 1 with fail
  refine wp_at HW.out ?_
  clear HW
  have c0 := gb.c0
  go_wp2_with fail
  refine (clone_H A n c _ W hW (H8_one hs) hn).mono ?_
  rintro e w1 ⟨A1, n1, c1, rfl, ho1, hb1⟩
  obtain rfl : n1 = n := by have := ho1.len; have := h.len; omega
  have gb1 := gb.to hb1
  have zb1 := zb.to hb1
  go_wp2_with (first
    | (refine wpl_gset gb1 0 (p_txs _) (by exact ⟨gb1.len.1, gb1.len.2, gb1.len.3⟩) (by decide) (by rfl) _ _ _ rfl rfl rfl rfl (by kernel_rfl) rfl ?_
       intro w2 gb2 bu2
       clear c0)
    | (refine wpl_gload gb2 (by rfl) _ _ rfl rfl _ Try.underlying41 rfl info_g ?_)
    | (refine wpl_gput (zb1.but bu2 (by simp)) zero_len gb2.len rfl (by rfl) _ _ _ rfl rfl rfl info_g ?_
       intro w3 gb3 bu3))
  have e1 := hbw.trans (hb1.mono hbw.size)
  have e2 := e1.trans (below_but bu2 (Nat.le_refl _) e1.size)
  have hz := zb.lt
  refine bodyPost_ret (v := gval (.slice A1 n1 c1) d) (results_blk Try.results46 rfl gb3.blk Try.underlying41 rfl (info_game gb3.len)) rfl ⟨A1, c1, rfl, ?_, e2.trans (below_but bu3 (Nat.le_succ _) e2.size), fun b hb => Nat.le_trans hbw.size (ho1.lt b hb).1⟩
  have s2 := ho1.sl.but2 bu2 (fun b hb h => by injection h with h; have := (ho1.lt b hb).1; omega)
  exact s2.but2 bu3 (fun b hb h => by injection h with h; have := (ho1.lt b hb).1; omega)
instance (n : Int) : Decidable (clockB n) := by unfold clockB; infer_instance
/-- what is wrong with a move -/
def mayE (d : GD) (t now : Int) : Int := if ¬ clockB now then 1 else if d.turn = 4 then 18 else if d.turn ≠ t then 17 else if d.limit < now then 18 else 0
theorem may_any (v : Value) (d : GD) (hd : GLen d) (t now : Int) (w : World) :
    Calls Try.prog 47 #[gval v d, .int .i64 t, .int .i64 now] w fun e w' => e = .returned (.int .i64 (mayE d t now)) ∧ Below w.heap.size w w' := by
  obtain ⟨W, HW, hbw, gb⟩ : ∃ W, Hid (W = w.alloc (.cells (gcells v d).toArray 41)) ∧ Below w.heap.size w W ∧ GB 41 W w.heap.size v d :=
    ⟨_, rfl, (Below.refl _ _).alloc (Nat.le_refl _) _, ⟨Blk.new w (gcells v d).toArray 41, hd⟩⟩
  have c99 := gb.c99
  have c101 := gb.c101
  unfold gval
  by_cases hc : clockB now
  · have CY := Lib.hid (clock_yes now W hc)
    by_cases h4 : d.turn = 4
    · have HE : Hid (mayE d t now = 18) := (by show _ = _; simp [mayE, hc, h4])
      have t4 : (d.turn == 4) = true := by simpa using h4
      rw [HE.out]
      clear hc h4
      go_enter Try.func47, Try.ntmps47
      go_upto_region 1 with fail
      refine wp_at HW.out ?_
      clear HW
      go_wp2_with fail
      refine CY.out.mono ?_
      rintro e w' ⟨rfl, rfl⟩
      go_wp2_with fail
      go_ret
      exact ⟨rfl, hbw⟩
    · have t4 : (d.turn == 4) = false := by simpa using h4
      by_cases h5 : d.turn = t
      · have t5 : (d.turn != t) = false := by simpa using h5
        by_cases h6 : d.limit < now
        · have HE : Hid (mayE d t now = 18) := (by show _ = _; unfold mayE; rw [if_neg (by simp [hc]), if_neg h4, if_neg (by simp [h5]), if_pos h6])
          rw [HE.out]
          clear hc h4 h5
          go_enter Try.func47, Try.ntmps47
          go_upto_region 1 with fail
          refine wp_at HW.out ?_
          clear HW
          go_wp2_with fail
          refine CY.out.mono ?_
          rintro e w' ⟨rfl, rfl⟩
          go_wp2_with fail
          go_ret
          exact ⟨rfl, hbw⟩
        · have HE : Hid (mayE d t now = 0) := (by show _ = _; unfold mayE; rw [if_neg (by simp [hc]), if_neg h4, if_neg (by simp [h5]), if_neg h6])
          rw [HE.out]
          clear hc h4 h5
          go_enter Try.func47, Try.ntmps47
          go_upto_region 1 with fail
          refine wp_at HW.out ?_
          clear HW
          go_wp2_with fail
          refine CY.out.mono ?_
          rintro e w' ⟨rfl, rfl⟩
          go_wp2_with fail
          go_ret
          exact ⟨rfl, hbw⟩
      · have t5 : (d.turn != t) = true := by simpa using h5
        have HE : Hid (mayE d t now = 17) := (by show _ = _; unfold mayE; rw [if_neg (by simp [hc]), if_neg h4, if_pos h5])
        rw [HE.out]
        clear hc h4 h5
        go_enter Try.func47, Try.ntmps47
        go_upto_region 1 with fail
        refine wp_at HW.out ?_
        clear HW
        go_wp2_with fail
        refine CY.out.mono ?_
        rintro e w' ⟨rfl, rfl⟩
        go_wp2_with fail
        go_ret
        exact ⟨rfl, hbw⟩
  · have CN := Lib.hid (clock_no now W hc)
    have HE : Hid (mayE d t now = 1) := (by show _ = _; unfold mayE; rw [if_pos hc])
    rw [HE.out]
    clear hc
    go_enter Try.func47, Try.ntmps47
    go_upto_region 1 with fail
    refine wp_at HW.out ?_
    clear HW
    go_wp2_with fail
    refine CN.out.mono ?_
    rintro e w' ⟨rfl, rfl⟩
    go_wp2_with fail
    go_ret
    exact ⟨rfl, hbw⟩
end Go.Proofs.Ytaaiembhdfgkjaa
