/- The walk of game.Choose. -/
import Derived.Test.YtaaiembhdfgkjaaGameM
namespace Go.Proofs.Ytaaiembhdfgkjaa
open Go.RowKit
/-- what is left behind what was chosen -/
def halfD (d : GD) (right : Bool) : GD := if right then { d with lo := d.lo + (d.hi - d.lo) / 2, rlo := d.mid, mid := zero32 } else { d with hi := d.lo + (d.hi - d.lo) / 2, rhi := d.mid, mid := zero32 }
def chooseD (d : GD) (right : Bool) (now : Int) : GD × Int := if mayE d 2 now = 0 then (movedD (turnD (halfD d right)) now, 0) else (d, mayE d 2 now)
theorem built_zero : Try.prog.built 26 [] = some (B8 zero32).toArray := by kernel_rfl
set_option maxRecDepth 100000 in
set_option maxHeartbeats 2000000 in
theorem choose_any (A : Option Addr) (n c : Nat) (hs : List (List UInt8)) (d : GD) (hd : GLen d) (right : Bool) (now : Int) (w : World) (h : Sl w 32 A n (H8 hs)) (hn : n ≤ 4194304) (m1 : 0 ≤ d.moves) (m2 : d.moves ≤ 1099511627776) (l1 : 0 ≤ d.lo) (l2 : d.lo ≤ d.hi) (l3 : d.hi ≤ 1099511627776) :
    Calls Try.prog 28 #[gval (.slice A n c) d, .bool right, .int .i64 now] w (RGe w hs n (chooseD d right now)) := by
  obtain ⟨W, HW, hbw, gb, zb⟩ := box_game w (.slice A n c) d hd
  have hW := h.to hbw
  have hz := zb.lt
  obtain ⟨E, hE⟩ : ∃ E, mayE d 2 now = E := ⟨_, rfl⟩
  have HE := Lib.hid hE
  unfold gval
  go_enter Try.func28, Try.ntmps28
  go_upto_region 1 with fail
  refine wp_at HW.out ?_
  clear HW hE
  go_wp2_with (first
    | (refine wpl_gload gb (by rfl) _ _ rfl rfl _ Try.underlying41 rfl info_g ?_))
  refine (own_any A n c hs d hd W hW hn).mono ?_
  rintro e w1 ⟨A1, c1, rfl, sl1, hb1, fr1⟩
  have gb1 := gb.to hb1
  have zb1 := zb.to hb1
  have f1 := hbw.trans (hb1.mono hbw.size)
  clear gb zb
  go_wp2_with (first
    | (refine wpl_gput gb1.blk (gcells_len gb1.len) hd rfl (by rfl) _ _ _ rfl rfl rfl info_g ?_
       intro w2 gb2 bu2)
    | (refine wpl_gload gb2 (by rfl) _ _ rfl rfl _ Try.underlying41 rfl info_g ?_))
  have f2 := f1.trans (below_but bu2 (Nat.le_refl _) f1.size)
  have sl2 := sl1.but2 bu2 (fun b hb h => by injection h with h; have := fr1 b hb; omega)
  have zb2 := zb1.but bu2 (by simp)
  refine (may_any (.slice A1 n c1) d hd 2 now w2).mono ?_
  rintro e w3 ⟨rfl, hb3⟩
  rw [HE.out]
  have gb3 := gb2.to hb3
  have zb3 := zb2.to hb3
  have sl3 := sl2.to hb3
  have f3 := f2.trans (hb3.mono f2.size)
  have ne : ∀ b, A1.map (·.block) = some b → w.heap.size + 2 ≤ b := fun b hb => by have := fr1 b hb; omega
  have NE := Lib.hid ne
  clear gb1 zb1 sl1 f1 bu2 hb1 zb2 sl2 hb3 gb2 fr1 ne
  by_cases h0 : E = 0
  · subst h0
    have hc := mayE_clock HE.out
    have hcd : chooseD d right now = (movedD (turnD (halfD d right)) now, 0) := by unfold chooseD; rw [if_pos HE.out]
    have HS := Lib.hid hcd
    clear hcd
    have c1' := gb3.c1
    have c2' := gb3.c2
    have u1 : 0 ≤ d.hi - d.lo := by omega
    have u2 : d.hi - d.lo ≤ 1099511627776 := by omega
    cases right
    · go_wp2_with (first
        | (refine wpl_load_fld (by rfl) _ _ rfl w.heap.size 67 rfl (B8 d.mid) _ gb3.r67 Try.underlying26 rfl (info_hash hd.mid) ?_)
        | (refine wpl_gset gb3 2 (p_hi _) (by exact ⟨gb3.len.1, gb3.len.2, gb3.len.3⟩) (by decide) (by rfl) _ _ _ rfl rfl rfl rfl (by kernel_rfl) rfl ?_
           intro w4 gb4 bu4
           clear c1' c2')
        | (refine wpl_gstore gb4 35 (p_rhi gb4.len d.mid hd.mid) (by exact ⟨gb4.len.1, hd.mid, gb4.len.3⟩) (by rfl) _ _ _ rfl rfl _ rfl rfl (by rw [B8_len, hd.mid]; omega) (info_hash hd.mid) (B8_one _) ?_
           intro w5 gb5 bu5)
        | (refine wpl_build (by rfl) _ _ rfl _ built_zero ?_)
        | (refine wpl_gstore gb5 67 (p_mid gb5.len zero32 rfl) (by exact ⟨gb5.len.1, gb5.len.2, rfl⟩) (by rfl) _ _ _ rfl rfl _ rfl rfl (by decide) (info_hash rfl) zero32_one ?_
           intro w6 gb6 bu6)
        | (refine wpl_gload gb6 (by rfl) _ _ rfl rfl _ Try.underlying41 rfl info_g ?_))
      have f4 := f3.trans (below_but bu4 (Nat.le_refl _) f3.size)
      have f5 := f4.trans (below_but bu5 (Nat.le_refl _) f4.size)
      have f6 := f5.trans (below_but bu6 (Nat.le_refl _) f5.size)
      have zb6 := ((zb3.but bu4 (by simp)).but bu5 (by simp)).but bu6 (by simp)
      have s4 := sl3.but2 bu4 (fun b hb h => by injection h with h; have := NE.out b hb; omega)
      have s5 := s4.but2 bu5 (fun b hb h => by injection h with h; have := NE.out b hb; omega)
      have s6 := s5.but2 bu6 (fun b hb h => by injection h with h; have := NE.out b hb; omega)
      clear bu4 bu5 bu6 f4 f5 s4 s5 gb3 gb4 gb5 sl3 f3 zb3
      refine (turn_any (.slice A1 n c1) rfl _ gb6.len _ (by dsimp only; omega) (by dsimp only; omega) (by dsimp only; omega) (by dsimp only; omega)).mono ?_
      rintro e w7 ⟨rfl, hb7⟩
      have hl7 : GLen (turnD (halfD d false)) := ⟨hd.1, hd.3, rfl⟩
      have zb7 := zb6.to hb7
      have f7 := f6.trans (hb7.mono f6.size)
      go_wp2_with fail
      refine (moved_any (.slice A1 n c1) rfl (turnD (halfD d false)) hl7 now _ m1 m2 (by have := hc.1; omega) hc.2).mono ?_
      rintro e w8 ⟨rfl, hb8⟩
      have zb8 := zb7.to hb8
      have f8 := f7.trans (hb8.mono f7.size)
      have hl8 : GLen (movedD (turnD (halfD d false)) now) := ⟨hd.1, hd.3, rfl⟩
      go_wp2_with (first
        | (refine wpl_gput zb8 zero_len hl8 rfl (by rfl) _ _ _ rfl rfl rfl info_g ?_
           intro w9 gb9 bu9))
      refine bodyPost_ret (results_blk2 Try.results28 rfl rfl gb9.blk Try.underlying41 rfl (info_game gb9.len)) rfl ?_
      rw [HS.out]
      refine ⟨A1, c1, rfl, ?_, f8.trans (below_but bu9 (by omega) f8.size), fun b hb => by have := NE.out b hb; omega⟩
      exact ((s6.to hb7).to hb8).but2 bu9 (fun b hb h => by injection h with h; have := NE.out b hb; omega)
    · go_wp2_with (first
        | (refine wpl_load_fld (by rfl) _ _ rfl w.heap.size 67 rfl (B8 d.mid) _ gb3.r67 Try.underlying26 rfl (info_hash hd.mid) ?_)
        | (refine wpl_gset gb3 1 (p_lo _) (by exact ⟨gb3.len.1, gb3.len.2, gb3.len.3⟩) (by decide) (by rfl) _ _ _ rfl rfl rfl rfl (by kernel_rfl) rfl ?_
           intro w4 gb4 bu4
           clear c1' c2')
        | (refine wpl_gstore gb4 3 (p_rlo gb4.len d.mid hd.mid) (by exact ⟨hd.mid, gb4.len.2, gb4.len.3⟩) (by rfl) _ _ _ rfl rfl _ rfl rfl (by rw [B8_len, hd.mid]; omega) (info_hash hd.mid) (B8_one _) ?_
           intro w5 gb5 bu5)
        | (refine wpl_build (by rfl) _ _ rfl _ built_zero ?_)
        | (refine wpl_gstore gb5 67 (p_mid gb5.len zero32 rfl) (by exact ⟨gb5.len.1, gb5.len.2, rfl⟩) (by rfl) _ _ _ rfl rfl _ rfl rfl (by decide) (info_hash rfl) zero32_one ?_
           intro w6 gb6 bu6)
        | (refine wpl_gload gb6 (by rfl) _ _ rfl rfl _ Try.underlying41 rfl info_g ?_))
      have f4 := f3.trans (below_but bu4 (Nat.le_refl _) f3.size)
      have f5 := f4.trans (below_but bu5 (Nat.le_refl _) f4.size)
      have f6 := f5.trans (below_but bu6 (Nat.le_refl _) f5.size)
      have zb6 := ((zb3.but bu4 (by simp)).but bu5 (by simp)).but bu6 (by simp)
      have s4 := sl3.but2 bu4 (fun b hb h => by injection h with h; have := NE.out b hb; omega)
      have s5 := s4.but2 bu5 (fun b hb h => by injection h with h; have := NE.out b hb; omega)
      have s6 := s5.but2 bu6 (fun b hb h => by injection h with h; have := NE.out b hb; omega)
      clear bu4 bu5 bu6 f4 f5 s4 s5 gb3 gb4 gb5 sl3 f3 zb3
      refine (turn_any (.slice A1 n c1) rfl _ gb6.len _ (by dsimp only; omega) (by dsimp only; omega) (by dsimp only; omega) (by dsimp only; omega)).mono ?_
      rintro e w7 ⟨rfl, hb7⟩
      have hl7 : GLen (turnD (halfD d true)) := ⟨hd.3, hd.2, rfl⟩
      have zb7 := zb6.to hb7
      have f7 := f6.trans (hb7.mono f6.size)
      go_wp2_with fail
      refine (moved_any (.slice A1 n c1) rfl (turnD (halfD d true)) hl7 now _ m1 m2 (by have := hc.1; omega) hc.2).mono ?_
      rintro e w8 ⟨rfl, hb8⟩
      have zb8 := zb7.to hb8
      have f8 := f7.trans (hb8.mono f7.size)
      have hl8 : GLen (movedD (turnD (halfD d true)) now) := ⟨hd.3, hd.2, rfl⟩
      go_wp2_with (first
        | (refine wpl_gput zb8 zero_len hl8 rfl (by rfl) _ _ _ rfl rfl rfl info_g ?_
           intro w9 gb9 bu9))
      refine bodyPost_ret (results_blk2 Try.results28 rfl rfl gb9.blk Try.underlying41 rfl (info_game gb9.len)) rfl ?_
      rw [HS.out]
      refine ⟨A1, c1, rfl, ?_, f8.trans (below_but bu9 (by omega) f8.size), fun b hb => by have := NE.out b hb; omega⟩
      exact ((s6.to hb7).to hb8).but2 bu9 (fun b hb h => by injection h with h; have := NE.out b hb; omega)
  · have hcd : chooseD d right now = (d, E) := by unfold chooseD; rw [HE.out, if_neg h0]
    have HS := Lib.hid hcd
    have t0 : (E != 0) = true := by simpa using h0
    clear hcd h0
    go_wp2_with (first
      | (refine wpl_gload gb3 (by rfl) _ _ rfl rfl _ Try.underlying41 rfl info_g ?_)
      | (refine wpl_gput zb3 zero_len hd rfl (by rfl) _ _ _ rfl rfl rfl info_g ?_
         intro w7 gb7 bu7))
    refine bodyPost_ret (results_blk2 Try.results28 rfl rfl gb7.blk Try.underlying41 rfl (info_game gb7.len)) rfl ?_
    rw [HS.out]
    refine ⟨A1, c1, rfl, ?_, f3.trans (below_but bu7 (by omega) f3.size), fun b hb => by have := NE.out b hb; omega⟩
    exact sl3.but2 bu7 (fun b hb h => by injection h with h; have := NE.out b hb; omega)
end Go.Proofs.Ytaaiembhdfgkjaa
