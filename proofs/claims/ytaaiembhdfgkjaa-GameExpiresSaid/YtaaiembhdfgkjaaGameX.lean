/- The walk of game.Expire. -/
import Derived.Test.YtaaiembhdfgkjaaGameC
namespace Go.Proofs.Ytaaiembhdfgkjaa
open Go.RowKit
def expireD (d : GD) (now : Int) : GD × Int := if ¬ clockB now then (d, 1) else if d.turn = 4 then (d, 18) else if now ≤ d.limit then (d, 23) else (overD d (d.turn == 2), 0)
set_option maxRecDepth 100000 in
set_option maxHeartbeats 2000000 in
theorem expire_any (A : Option Addr) (n c : Nat) (hs : List (List UInt8)) (d : GD) (hd : GLen d) (now : Int) (w : World) (h : Sl w 32 A n (H8 hs)) (hn : n ≤ 4194304) :
    Calls Try.prog 30 #[gval (.slice A n c) d, .int .i64 now] w (RGe w hs n (expireD d now)) := by
  obtain ⟨W, HW, hbw, gb, zb⟩ := box_game w (.slice A n c) d hd
  have hW := h.to hbw
  have hz := zb.lt
  unfold gval
  go_enter Try.func30, Try.ntmps30
  go_upto_region 1 with fail
  refine wp_at HW.out ?_
  clear HW
  go_wp2_with (first
    | (refine wpl_gload gb (by rfl) _ _ rfl rfl _ Try.underlying41 rfl info_g ?_))
  refine (own_any A n c hs d hd W hW hn).mono ?_
  rintro e w1 ⟨A1, c1, rfl, sl1, hb1, fr1⟩
  have gb1 := gb.to hb1
  have zb1 := zb.to hb1
  have f1 := hbw.trans (hb1.mono hbw.size)
  clear gb zb
  go_wp2_with (first
    | (refine wpl_gput gb1.blk (gcells_len gb1.len) hd rfl (by rfl) _ _ _ rfl rfl rfl info_g ?_
       intro w2 gb2 bu2))
  have f2 := f1.trans (below_but bu2 (Nat.le_refl _) f1.size)
  have sl2 := sl1.but2 bu2 (fun b hb h => by injection h with h; have := fr1 b hb; omega)
  have zb2 := zb1.but bu2 (by simp)
  have c99 := gb2.c99
  have c101 := gb2.c101
  have ne : ∀ b, A1.map (·.block) = some b → w.heap.size + 2 ≤ b := fun b hb => by have := fr1 b hb; omega
  have NE := Lib.hid ne
  clear gb1 zb1 sl1 f1 bu2 hb1 fr1 ne
  by_cases hc : clockB now
  · have CY := Lib.hid (clock_yes now w2 hc)
    by_cases h4 : d.turn = 4
    · have hS : expireD d now = (d, 18) := by unfold expireD; rw [if_neg (by simp [hc]), if_pos h4]
      have HS := Lib.hid hS
      have t4 : (d.turn == 4) = true := by simpa using h4
      clear hS h4 hc
      refine CY.out.mono ?_
      rintro e w' ⟨rfl, rfl⟩
      go_wp2_with (first
        | (refine wpl_gload gb2 (by rfl) _ _ rfl rfl _ Try.underlying41 rfl info_g ?_)
        | (refine wpl_gput zb2 zero_len hd rfl (by rfl) _ _ _ rfl rfl rfl info_g ?_
           intro w7 gb7 bu7))
      refine bodyPost_ret (results_blk2 Try.results30 rfl rfl gb7.blk Try.underlying41 rfl (info_game gb7.len)) rfl ?_
      rw [HS.out]
      refine ⟨A1, c1, rfl, ?_, f2.trans (below_but bu7 (by omega) f2.size), fun b hb => by have := NE.out b hb; omega⟩
      exact sl2.but2 bu7 (fun b hb h => by injection h with h; have := NE.out b hb; omega)
    · have t4 : (d.turn == 4) = false := by simpa using h4
      by_cases h5 : now ≤ d.limit
      · have hS : expireD d now = (d, 23) := by unfold expireD; rw [if_neg (by simp [hc]), if_neg h4, if_pos h5]
        have HS := Lib.hid hS
        clear hS h4 hc
        refine CY.out.mono ?_
        rintro e w' ⟨rfl, rfl⟩
        go_wp2_with (first
          | (refine wpl_gload gb2 (by rfl) _ _ rfl rfl _ Try.underlying41 rfl info_g ?_)
          | (refine wpl_gput zb2 zero_len hd rfl (by rfl) _ _ _ rfl rfl rfl info_g ?_
             intro w7 gb7 bu7))
        refine bodyPost_ret (results_blk2 Try.results30 rfl rfl gb7.blk Try.underlying41 rfl (info_game gb7.len)) rfl ?_
        rw [HS.out]
        refine ⟨A1, c1, rfl, ?_, f2.trans (below_but bu7 (by omega) f2.size), fun b hb => by have := NE.out b hb; omega⟩
        exact sl2.but2 bu7 (fun b hb h => by injection h with h; have := NE.out b hb; omega)
      · have hS : expireD d now = (overD d (d.turn == 2), 0) := by unfold expireD; rw [if_neg (by simp [hc]), if_neg h4, if_neg h5]
        have HS := Lib.hid hS
        clear hS h4 hc
        refine CY.out.mono ?_
        rintro e w' ⟨rfl, rfl⟩
        go_wp2_with (first
          | (refine wpl_gload gb2 (by rfl) _ _ rfl rfl _ Try.underlying41 rfl info_g ?_))
        refine (over_any (.slice A1 n c1) rfl d hd (d.turn == 2) _).mono ?_
        rintro e w6 ⟨rfl, hb6⟩
        have zb6 := zb2.to hb6
        have f6 := f2.trans (hb6.mono f2.size)
        have hl6 : GLen (overD d (d.turn == 2)) := ⟨hd.1, hd.2, hd.3⟩
        go_wp2_with (first
          | (refine wpl_gput zb6 zero_len hl6 rfl (by rfl) _ _ _ rfl rfl rfl info_g ?_
             intro w7 gb7 bu7))
        refine bodyPost_ret (results_blk2 Try.results30 rfl rfl gb7.blk Try.underlying41 rfl (info_game gb7.len)) rfl ?_
        rw [HS.out]
        refine ⟨A1, c1, rfl, ?_, f6.trans (below_but bu7 (by omega) f6.size), fun b hb => by have := NE.out b hb; omega⟩
        exact (sl2.to hb6).but2 bu7 (fun b hb h => by injection h with h; have := NE.out b hb; omega)
  · have CN := Lib.hid (clock_no now w2 hc)
    have hS : expireD d now = (d, 1) := by unfold expireD; rw [if_pos hc]
    have HS := Lib.hid hS
    clear hS hc
    refine CN.out.mono ?_
    rintro e w' ⟨rfl, rfl⟩
    go_wp2_with (first
      | (refine wpl_gload gb2 (by rfl) _ _ rfl rfl _ Try.underlying41 rfl info_g ?_)
      | (refine wpl_gput zb2 zero_len hd rfl (by rfl) _ _ _ rfl rfl rfl info_g ?_
         intro w7 gb7 bu7))
    refine bodyPost_ret (results_blk2 Try.results30 rfl rfl gb7.blk Try.underlying41 rfl (info_game gb7.len)) rfl ?_
    rw [HS.out]
    refine ⟨A1, c1, rfl, ?_, f2.trans (below_but bu7 (by omega) f2.size), fun b hb => by have := NE.out b hb; omega⟩
    exact sl2.but2 bu7 (fun b hb h => by injection h with h; have := NE.out b hb; omega)
end Go.Proofs.Ytaaiembhdfgkjaa
