/- Walks: a game's moves: Say, Choose, Expire. -/
import Derived.Test.YtaaiembhdfgkjaaGameS
namespace Go.Proofs.Ytaaiembhdfgkjaa
open Go.RowKit
def sayD (d : GD) (mid : List UInt8) (now : Int) : GD × Int := if mayE d 1 now = 0 then (movedD { d with mid := mid, turn := 2 } now, 0) else (d, mayE d 1 now)
theorem mayE_clock {d : GD} {t now : Int} (h : mayE d t now = 0) : clockB now := by
  unfold mayE at h
  by_cases hc : clockB now
  · exact hc
  · rw [if_pos hc] at h
    cases h
set_option maxRecDepth 100000 in
set_option maxHeartbeats 1000000 in
theorem say_any (A : Option Addr) (n c : Nat) (hs : List (List UInt8)) (d : GD) (hd : GLen d) (mid : List UInt8) (now : Int) (w : World) (h : Sl w 32 A n (H8 hs)) (hn : n ≤ 4194304) (hm : mid.length = 32) (m1 : 0 ≤ d.moves) (m2 : d.moves ≤ 1099511627776) :
    Calls Try.prog 27 #[gval (.slice A n c) d, hv mid, .int .i64 now] w (RGe w hs n (sayD d mid now)) := by
  obtain ⟨W, HW, hbw, gb, bm, zb⟩ : ∃ W, Hid (W = ((w.alloc (.cells (gcells (.slice A n c) d).toArray 41)).alloc (.cells (B8 mid).toArray 26)).alloc (.cells Try.zeroCells41 41)) ∧ Below w.heap.size w W ∧
      GB 41 W w.heap.size (.slice A n c) d ∧ Blk W (w.heap.size + 1) 26 (B8 mid) ∧ Blk W (w.heap.size + 2) 41 Try.zeroCells41.toList := by
    refine ⟨_, rfl, (((Below.refl _ _).alloc (Nat.le_refl _) _).alloc (by simp) _).alloc (by simp; omega) _, ⟨?_, hd⟩, ?_, ?_⟩
    · exact (Blk.new w (gcells (.slice A n c) d).toArray 41).to (((Below.refl _ _).alloc (Nat.le_refl _) _).alloc (by simp) _)
    · have := (Blk.new (w.alloc (.cells (gcells (.slice A n c) d).toArray 41)) (B8 mid).toArray 26).to ((Below.refl _ _).alloc (Nat.le_refl _) (.cells Try.zeroCells41 41))
      simpa using this
    · have := Blk.new ((w.alloc (.cells (gcells (.slice A n c) d).toArray 41)).alloc (.cells (B8 mid).toArray 26)) Try.zeroCells41 41
      rw [show ((w.alloc (.cells (gcells (.slice A n c) d).toArray 41)).alloc (.cells (B8 mid).toArray 26)).heap.size = w.heap.size + 2 from by simp] at this
      exact this
  have hW := h.to hbw
  have HM := Lib.hid hm
  clear hm
  have hz := zb.lt
  unfold hv
  obtain ⟨E, hE⟩ : ∃ E, mayE d 1 now = E := ⟨_, rfl⟩
  have HE := Lib.hid hE
  unfold gval
  go_enter Try.func27, Try.ntmps27
  go_upto_region 1 with fail
  refine wp_at HW.out ?_
  clear HW hE
  go_wp2_with (first
    | (refine wpl_gload gb (by rfl) _ _ rfl rfl _ Try.underlying41 rfl info_g ?_))
  refine (own_any A n c hs d hd W hW hn).mono ?_
  rintro e w1 ⟨A1, c1, rfl, sl1, hb1, fr1⟩
  have gb1 := gb.to hb1
  have bm1 := bm.to hb1
  have zb1 := zb.to hb1
  have f1 := hbw.trans (hb1.mono hbw.size)
  clear gb bm zb
  go_wp2_with (first
    | (refine wpl_gput gb1.blk (gcells_len gb1.len) hd rfl (by rfl) _ _ _ rfl rfl rfl info_g ?_
       intro w2 gb2 bu2)
    | (refine wpl_gload gb2 (by rfl) _ _ rfl rfl _ Try.underlying41 rfl info_g ?_))
  have f2 := f1.trans (below_but bu2 (Nat.le_refl _) f1.size)
  have sl2 := sl1.but2 bu2 (fun b hb h => by injection h with h; have := fr1 b hb; omega)
  have bm2 := bm1.but bu2 (by simp)
  have zb2 := zb1.but bu2 (by simp)
  refine (may_any (.slice A1 n c1) d hd 1 now w2).mono ?_
  rintro e w3 ⟨rfl, hb3⟩
  rw [HE.out]
  have gb3 := gb2.to hb3
  have bm3 := bm2.to hb3
  have zb3 := zb2.to hb3
  have sl3 := sl2.to hb3
  have f3 := f2.trans (hb3.mono f2.size)
  clear gb1 bm1 zb1 sl1 f1 bu2 hb1 bm2 zb2 sl2 hb3 gb2
  by_cases h0 : E = 0
  · subst h0
    have hc := mayE_clock HE.out
    have hsay : sayD d mid now = (movedD { d with mid := mid, turn := 2 } now, 0) := by unfold sayD; rw [if_pos HE.out]
    have HS := Lib.hid hsay
    clear hsay
    go_wp2_with (first
      | (refine wpl_load_fld (by rfl) _ _ rfl (w.heap.size + 1) 0 rfl (B8 mid) _ bm3.range Try.underlying26 rfl (info_hash HM.out) ?_)
      | (refine wpl_gstore gb3 67 (p_mid gb3.len mid HM.out) (by exact ⟨gb3.len.1, gb3.len.2, HM.out⟩) (by rfl) _ _ _ rfl rfl _ rfl rfl (by rw [B8_len, HM.out]; omega) (info_hash HM.out) (B8_one _) ?_
         intro w4 gb4 bu4)
      | (refine wpl_gset gb4 99 (p_turn gb4.len _) (by exact ⟨gb4.len.1, gb4.len.2, gb4.len.3⟩) (by decide) (by rfl) _ _ _ rfl rfl rfl rfl (by kernel_rfl) rfl ?_
         intro w5 gb5 bu5)
      | (refine wpl_gload gb5 (by rfl) _ _ rfl rfl _ Try.underlying41 rfl info_g ?_))
    have f4 := f3.trans (below_but bu4 (Nat.le_refl _) f3.size)
    have f5 := f4.trans (below_but bu5 (Nat.le_refl _) f4.size)
    refine (moved_any (.slice A1 n c1) rfl _ gb5.len now _ m1 m2 (by have := hc.1; omega) hc.2).mono ?_
    rintro e w6 ⟨rfl, hb6⟩
    have zb6 := ((zb3.but bu4 (by simp)).but bu5 (by simp)).to hb6
    have f6 := f5.trans (hb6.mono f5.size)
    have hl6 : GLen (movedD { d with mid := mid, turn := 2 } now) := ⟨hd.1, hd.2, HM.out⟩
    go_wp2_with (first
      | (refine wpl_gput zb6 zero_len hl6 rfl (by rfl) _ _ _ rfl rfl rfl info_g ?_
         intro w7 gb7 bu7))
    have ne : ∀ b, A1.map (·.block) = some b → w.heap.size + 3 ≤ b := fun b hb => by have := fr1 b hb; omega
    refine bodyPost_ret (results_blk2 Try.results27 rfl rfl gb7.blk Try.underlying41 rfl (info_game gb7.len)) rfl ?_
    rw [HS.out]
    refine ⟨A1, c1, rfl, ?_, f6.trans (below_but bu7 (by omega) f6.size), fun b hb => by have := ne b hb; omega⟩
    have s4 := sl3.but2 bu4 (fun b hb h => by injection h with h; have := ne b hb; omega)
    have s5 := s4.but2 bu5 (fun b hb h => by injection h with h; have := ne b hb; omega)
    exact (s5.to hb6).but2 bu7 (fun b hb h => by injection h with h; have := ne b hb; omega)
  · have hsay : sayD d mid now = (d, E) := by unfold sayD; rw [HE.out, if_neg h0]
    have HS := Lib.hid hsay
    have t0 : (E != 0) = true := by simpa using h0
    clear hsay h0
    go_wp2_with (first
      | (refine wpl_gload gb3 (by rfl) _ _ rfl rfl _ Try.underlying41 rfl info_g ?_)
      | (refine wpl_gput zb3 zero_len hd rfl (by rfl) _ _ _ rfl rfl rfl info_g ?_
         intro w7 gb7 bu7))
    have ne : ∀ b, A1.map (·.block) = some b → w.heap.size + 3 ≤ b := fun b hb => by have := fr1 b hb; omega
    refine bodyPost_ret (results_blk2 Try.results27 rfl rfl gb7.blk Try.underlying41 rfl (info_game gb7.len)) rfl ?_
    rw [HS.out]
    refine ⟨A1, c1, rfl, ?_, f3.trans (below_but bu7 (by omega) f3.size), fun b hb => by have := ne b hb; omega⟩
    exact sl3.but2 bu7 (fun b hb h => by injection h with h; have := ne b hb; omega)
end Go.Proofs.Ytaaiembhdfgkjaa
