/- The walk of state.add. -/
import Derived.Test.YtakebmpnbdlcoaaShaKeys
import Derived.Deep.Cut
import Derived.StillTailTactics
set_option linter.unusedSimpArgs false
set_option linter.unusedVariables false
namespace Go.Proofs.Ytakebmpnbdlcoaa
open Go.RowKit
set_option maxRecDepth 100000
set_option maxRecDepth 100000 in
set_option maxHeartbeats 2000000 in
theorem add_any (s : S8) (hok : s.ok) (b o c : Nat) (l : List UInt8) (w : World) (hs : Sl w 1 (some ⟨b, o, none⟩) 64 (B8 l)) (hb : b < w.heap.size) (hc : 64 ≤ c) (hc2 : c ≤ 9223372036854775807) :
    Calls Try.prog 62 #[.agg (V32 s.list).toArray, .slice (some ⟨b, o, none⟩) 64 c] w fun e w' => e = .returned (.agg (V32 (comp s l).list).toArray) ∧ Below w.heap.size w w' := by
  obtain ⟨W, hW⟩ : ∃ W, W = (w.alloc (.cells (V32 s.list).toArray 90)).alloc (.cells #[.int .u32 0, .int .u32 0, .int .u32 0, .int .u32 0, .int .u32 0, .int .u32 0, .int .u32 0, .int .u32 0] 90) := ⟨_, rfl⟩
  have hbw : Below w.heap.size w W := by
    subst hW
    exact ((Below.refl _ _).alloc (Nat.le_refl _) _).alloc (by simp) _
  have b2 : Blk W w.heap.size 90 (V32 s.list) := by
    subst hW
    exact (Blk.new w (V32 s.list).toArray 90).to ((Below.refl _ _).alloc (Nat.le_refl _) _)
  have b4 : Blk W (w.heap.size + 1) 90 (List.replicate 8 (.int .u32 0)) := by
    subst hW
    have := Blk.new (w.alloc (.cells (V32 s.list).toArray 90)) #[.int .u32 0, .int .u32 0, .int .u32 0, .int .u32 0, .int .u32 0, .int .u32 0, .int .u32 0, .int .u32 0] 90
    simpa using this
  have sW := hs.to hbw
  have HW := Lib.hid hW
  clear hW hs
  go_enter Try.func62, Try.ntmps62
  go_upto_region 1 with fail
  refine wp_at HW.out ?_
  clear HW
  generalize hN : w.heap.size = N at *
  have HN := Lib.hid hN
  clear hN
  have hNW : N + 1 < W.heap.size := b4.lt
  go_wp2_with fail
  refine (spread_any b o c l W sW (by omega) hc hc2).mono ?_
  rintro e w1 ⟨rfl, hb1⟩
  go_wp2_with fail
  obtain ⟨ks, hks⟩ : ∃ ks, ks = shaKs := ⟨_, rfl⟩
  have K := keys_any w1
  rw [← hks] at K
  have hkl : ks.length = 64 := by rw [hks]; rfl
  refine K.mono ?_
  clear K
  rintro e w2 ⟨rfl, hb2⟩
  obtain ⟨ws, hws⟩ : ∃ ws, ws = sched l 64 := ⟨_, rfl⟩
  have hwl : ws.length = 64 := by rw [hws, sched_len]
  rw [← hws]
  have HKS := Lib.hid hks
  have HWS := Lib.hid hws
  have HKL := Lib.hid hkl
  have HWL := Lib.hid hwl
  obtain ⟨Y, hY⟩ : ∃ Y, Y = (w2.alloc (.cells #[.int .u32 0, .int .u32 0, .int .u32 0, .int .u32 0, .int .u32 0, .int .u32 0, .int .u32 0, .int .u32 0, .int .u32 0, .int .u32 0, .int .u32 0, .int .u32 0, .int .u32 0, .int .u32 0, .int .u32 0, .int .u32 0, .int .u32 0, .int .u32 0, .int .u32 0, .int .u32 0, .int .u32 0, .int .u32 0, .int .u32 0, .int .u32 0, .int .u32 0, .int .u32 0, .int .u32 0, .int .u32 0, .int .u32 0, .int .u32 0, .int .u32 0, .int .u32 0, .int .u32 0, .int .u32 0, .int .u32 0, .int .u32 0, .int .u32 0, .int .u32 0, .int .u32 0, .int .u32 0, .int .u32 0, .int .u32 0, .int .u32 0, .int .u32 0, .int .u32 0, .int .u32 0, .int .u32 0, .int .u32 0, .int .u32 0, .int .u32 0, .int .u32 0, .int .u32 0, .int .u32 0, .int .u32 0, .int .u32 0, .int .u32 0, .int .u32 0, .int .u32 0, .int .u32 0, .int .u32 0, .int .u32 0, .int .u32 0, .int .u32 0, .int .u32 0] 93)).alloc (.cells #[.int .u32 0, .int .u32 0, .int .u32 0, .int .u32 0, .int .u32 0, .int .u32 0, .int .u32 0, .int .u32 0, .int .u32 0, .int .u32 0, .int .u32 0, .int .u32 0, .int .u32 0, .int .u32 0, .int .u32 0, .int .u32 0, .int .u32 0, .int .u32 0, .int .u32 0, .int .u32 0, .int .u32 0, .int .u32 0, .int .u32 0, .int .u32 0, .int .u32 0, .int .u32 0, .int .u32 0, .int .u32 0, .int .u32 0, .int .u32 0, .int .u32 0, .int .u32 0, .int .u32 0, .int .u32 0, .int .u32 0, .int .u32 0, .int .u32 0, .int .u32 0, .int .u32 0, .int .u32 0, .int .u32 0, .int .u32 0, .int .u32 0, .int .u32 0, .int .u32 0, .int .u32 0, .int .u32 0, .int .u32 0, .int .u32 0, .int .u32 0, .int .u32 0, .int .u32 0, .int .u32 0, .int .u32 0, .int .u32 0, .int .u32 0, .int .u32 0, .int .u32 0, .int .u32 0, .int .u32 0, .int .u32 0, .int .u32 0, .int .u32 0, .int .u32 0] 93) := ⟨_, rfl⟩
  have y5 : Blk Y w2.heap.size 93 (List.replicate 64 (.int .u32 0)) := by
    subst hY
    exact (Blk.new w2 #[.int .u32 0, .int .u32 0, .int .u32 0, .int .u32 0, .int .u32 0, .int .u32 0, .int .u32 0, .int .u32 0, .int .u32 0, .int .u32 0, .int .u32 0, .int .u32 0, .int .u32 0, .int .u32 0, .int .u32 0, .int .u32 0, .int .u32 0, .int .u32 0, .int .u32 0, .int .u32 0, .int .u32 0, .int .u32 0, .int .u32 0, .int .u32 0, .int .u32 0, .int .u32 0, .int .u32 0, .int .u32 0, .int .u32 0, .int .u32 0, .int .u32 0, .int .u32 0, .int .u32 0, .int .u32 0, .int .u32 0, .int .u32 0, .int .u32 0, .int .u32 0, .int .u32 0, .int .u32 0, .int .u32 0, .int .u32 0, .int .u32 0, .int .u32 0, .int .u32 0, .int .u32 0, .int .u32 0, .int .u32 0, .int .u32 0, .int .u32 0, .int .u32 0, .int .u32 0, .int .u32 0, .int .u32 0, .int .u32 0, .int .u32 0, .int .u32 0, .int .u32 0, .int .u32 0, .int .u32 0, .int .u32 0, .int .u32 0, .int .u32 0, .int .u32 0] 93).to ((Below.refl _ _).alloc (Nat.le_refl _) _)
  have y6 : Blk Y (w2.heap.size + 1) 93 (List.replicate 64 (.int .u32 0)) := by
    subst hY
    have := Blk.new (w2.alloc (.cells #[.int .u32 0, .int .u32 0, .int .u32 0, .int .u32 0, .int .u32 0, .int .u32 0, .int .u32 0, .int .u32 0, .int .u32 0, .int .u32 0, .int .u32 0, .int .u32 0, .int .u32 0, .int .u32 0, .int .u32 0, .int .u32 0, .int .u32 0, .int .u32 0, .int .u32 0, .int .u32 0, .int .u32 0, .int .u32 0, .int .u32 0, .int .u32 0, .int .u32 0, .int .u32 0, .int .u32 0, .int .u32 0, .int .u32 0, .int .u32 0, .int .u32 0, .int .u32 0, .int .u32 0, .int .u32 0, .int .u32 0, .int .u32 0, .int .u32 0, .int .u32 0, .int .u32 0, .int .u32 0, .int .u32 0, .int .u32 0, .int .u32 0, .int .u32 0, .int .u32 0, .int .u32 0, .int .u32 0, .int .u32 0, .int .u32 0, .int .u32 0, .int .u32 0, .int .u32 0, .int .u32 0, .int .u32 0, .int .u32 0, .int .u32 0, .int .u32 0, .int .u32 0, .int .u32 0, .int .u32 0, .int .u32 0, .int .u32 0, .int .u32 0, .int .u32 0] 93)) #[.int .u32 0, .int .u32 0, .int .u32 0, .int .u32 0, .int .u32 0, .int .u32 0, .int .u32 0, .int .u32 0, .int .u32 0, .int .u32 0, .int .u32 0, .int .u32 0, .int .u32 0, .int .u32 0, .int .u32 0, .int .u32 0, .int .u32 0, .int .u32 0, .int .u32 0, .int .u32 0, .int .u32 0, .int .u32 0, .int .u32 0, .int .u32 0, .int .u32 0, .int .u32 0, .int .u32 0, .int .u32 0, .int .u32 0, .int .u32 0, .int .u32 0, .int .u32 0, .int .u32 0, .int .u32 0, .int .u32 0, .int .u32 0, .int .u32 0, .int .u32 0, .int .u32 0, .int .u32 0, .int .u32 0, .int .u32 0, .int .u32 0, .int .u32 0, .int .u32 0, .int .u32 0, .int .u32 0, .int .u32 0, .int .u32 0, .int .u32 0, .int .u32 0, .int .u32 0, .int .u32 0, .int .u32 0, .int .u32 0, .int .u32 0, .int .u32 0, .int .u32 0, .int .u32 0, .int .u32 0, .int .u32 0, .int .u32 0, .int .u32 0, .int .u32 0] 93
    simpa using this
  have hbY : Below w2.heap.size w2 Y := by
    subst hY
    exact ((Below.refl _ _).alloc (Nat.le_refl _) _).alloc (by simp) _
  have HY := Lib.hid hY
  clear hY hks hws hkl hwl
  go_upto_region 2 with (first
    | (refine wpl_at HY.out ?_; refine wpl_store_blk rfl _ _ _ rfl w2.heap.size 93 (List.replicate 64 (.int .u32 0)) (V32 ws) rfl rfl y5 (by rw [V32_len, HWL.out, List.length_replicate]) (info_64 HWL.out) (V32_one _) ?_; clear HY; intro Y5 z5 hz5)
    | (refine wpl_store_blk rfl _ _ _ rfl (w2.heap.size + 1) 93 (List.replicate 64 (.int .u32 0)) (V32 ks) rfl rfl (y6.but hz5 (fun h => by injection h; omega)) (by rw [V32_len, HKL.out, List.length_replicate]) (info_64 HKL.out) (V32_one _) ?_; intro V z6 hz6))
  have hY5 : Below w2.heap.size w2 Y5 := hbY.trans (below_but hz5 (Nat.le_refl _) hbY.size)
  have hV : Below w2.heap.size w2 V := hY5.trans (below_but hz6 (by omega) hY5.size)
  have hW2 : Below W.heap.size W w2 := hb1.trans (hb2.mono hb1.size)
  have hWV : Below W.heap.size W V := hW2.trans (hV.mono hW2.size)
  have v2 := b2.to hWV
  have v4 := b4.to hWV
  have v5 := z5.but hz6 (fun h => by injection h; omega)
  have hNP : N + 1 < w2.heap.size := Nat.lt_of_lt_of_le hNW hW2.size
  have hPV : w2.heap.size + 1 < V.heap.size := z6.lt
  have hNV : Below N w V := hbw.trans (hWV.mono (by omega))
  clear z5 hz5 hz6 y5 y6 hbY hY5 hV hb1 hb2 hW2 b2 b4 sW hbw hWV
  generalize w2.heap.size = P5 at *
  go_wp2_with (first
    | (refine wpl_load_blk rfl _ _ rfl N rfl 90 (V32 s.list) _ v2 Try.underlying90 rfl (info_st rfl) ?_)
    | (refine wpl_store_new rfl _ _ _ rfl 90 _ (V32 s.list) rfl rfl rfl (info_st rfl) (V32_one _) ?_; intro V7 b7 hb7))
  have v2' := v2.to hb7
  have v4' := v4.to hb7
  have v5' := v5.to hb7
  have v6' := z6.to hb7
  have hNV7 : Below N w V7 := hNV.trans (hb7.mono (by omega))
  generalize hp7 : V.heap.size = p7 at *
  clear hp7 v2 v4 v5 z6 hb7 hNV
  go_loopw [18] (fun v wr => ∃ i : Nat, i ≤ 64 ∧ v = .int .i64 i ∧ Blk wr p7 90 (V32 (rnds ws s i).list) ∧ RBut (some p7) V7 wr) (fun v _ => 64 - (intOf v).toNat)
  case atStart => exact ⟨0, by omega, rfl, b7, RBut.refl_ _ _⟩
  case round =>
    clear b7
    obtain ⟨i, hi, rfl, bi, hbi⟩ := hrel
    by_cases hlt : i < 64
    · have t1 : (i : Int) < 64 := by omega
      have hoki := rnds_ok ws hok i
      have hrn : rnds ws s (i + 1) = rnd (rnds ws s i) (shaKs.getD i 0) (ws.getD i 0) := rfl
      rw [← HKS.out] at hrn
      have hkk : ks.getD i 0 < 4294967296 := by rw [HKS.out]; exact shaKs_lt i
      have hww : ws.getD i 0 < 4294967296 := by rw [HWS.out]; exact sched_lt l 64 i
      have gk : ks[i]? = some (ks.getD i 0) := by have := HKL.out; rw [List.getD, List.getElem?_eq_getElem (by omega)]; rfl
      have gw : ws[i]? = some (ws.getD i 0) := by have := HWL.out; rw [List.getD, List.getElem?_eq_getElem (by omega)]; rfl
      generalize ks.getD i 0 = k at *
      generalize ws.getD i 0 = x at *
      generalize rnds ws s i = u at *
      obtain ⟨ua, ub, uc, ud, ue, uf, ug, uh⟩ := u
      obtain ⟨ka, kb, kc, kd, ke, kf, kg, kh⟩ := hoki
      simp only [S8.list] at bi
      dsimp only at ka kb kc kd ke kf kg kh
      have v5i := v5'.but hbi (fun h => by injection h; omega)
      have v6i := v6'.but hbi (fun h => by injection h; omega)
      have HR := Lib.hid hrn
      have HGK := Lib.hid gk
      have HGW := Lib.hid gw
      clear hrn gk gw
      go_wp2_with fail
      have c0 : ∀ w', RBel wr.drew w' → w'.cell? ⟨p7, 0, none⟩ = some (.int .u32 (ua : Int)) := Blk.at_ (w := wr.drew) bi 0 rfl
      have c4 : ∀ w', RBel wr.drew w' → w'.cell? ⟨p7, 4, none⟩ = some (.int .u32 (ue : Int)) := Blk.at_ (w := wr.drew) bi 4 rfl
      refine wp_region_C [(0, true), (1, true), (2, true), (3, true), (4, false), (5, false)] RBel (by kernel_rfl) (by kernel_rfl) (by kernel_rfl) (by decide) RBel.refl_ RBel.trans_ (by intro d v c a w h; cases d <;> exact h) ?_
      repeat (first | (refine wpC_quiet (v := ?_) rfl (by rfl) ?_ ?_; rotate_left; (· (intro w' hw'; go_simp; try with_reducible rfl)); simp only [Act.put, List.setIfInBounds_toArray, List.set_cons_zero, List.set_cons_succ]) | (refine wpC_val (v := ?_) (RBel.refl_) rfl (by rfl) ?_ ?_; rotate_left; (· (go_simp; try with_reducible rfl)); simp only [Act.put, List.setIfInBounds_toArray, List.set_cons_zero, List.set_cons_succ]) | (refine wpC_skip rfl (by rfl) ?_; simp only [Act.put, List.setIfInBounds_toArray, List.set_cons_zero, List.set_cons_succ]) | (refine wpC_skip' (RBel.refl_) rfl (by rfl) ?_; simp only [Act.put, List.setIfInBounds_toArray, List.set_cons_zero, List.set_cons_succ]))
      refine wpC_nil ?_
      clear c0 c4
      go_wp2_with fail
      have c5 : ∀ w', RBel wr.drew.drew w' → w'.cell? ⟨p7, 5, none⟩ = some (.int .u32 (uf : Int)) := Blk.at_ (w := wr.drew.drew) bi 5 rfl
      have c6 : ∀ w', RBel wr.drew.drew w' → w'.cell? ⟨p7, 6, none⟩ = some (.int .u32 (ug : Int)) := Blk.at_ (w := wr.drew.drew) bi 6 rfl
      have c7 : ∀ w', RBel wr.drew.drew w' → w'.cell? ⟨p7, 7, none⟩ = some (.int .u32 (uh : Int)) := Blk.at_ (w := wr.drew.drew) bi 7 rfl
      have ck : ∀ w', RBel wr.drew.drew w' → w'.cell? ⟨P5 + 1, i, none⟩ = some (.int .u32 (k : Int)) := Blk.at_ (w := wr.drew.drew) v6i i (V32_get HGK.out)
      have cx : ∀ w', RBel wr.drew.drew w' → w'.cell? ⟨P5, i, none⟩ = some (.int .u32 (x : Int)) := Blk.at_ (w := wr.drew.drew) v5i i (V32_get HGW.out)
      have Y0 := usig1_bits ue ke
      have Y1 := chs_bits ue uf ug ke kf kg
      have sg : IntKind.u32.signed = false := rfl
      have Y2 := sum5 uh (usig1 ue) (chs ue uf ug) k x
      obtain ⟨X, hX⟩ : ∃ X, X = (uh + usig1 ue + chs ue uf ug + k + x) % 4294967296 := ⟨_, rfl⟩
      have hXl : X < 4294967296 := by rw [hX]; exact Nat.mod_lt _ (by decide)
      rw [← hX] at Y2
      have HX := Lib.hid hX
      clear hX
      refine wp_region_C [(0, true), (1, true), (2, true), (4, true), (7, true), (11, true), (12, true), (13, true), (14, true), (15, true), (16, true), (17, true), (18, true), (19, true), (20, true), (22, true), (23, true), (24, true), (26, true), (27, true), (28, true), (3, false), (5, false), (6, true), (8, false), (9, false), (10, false), (21, false), (25, false), (29, false), (30, false)] RBel (by kernel_rfl) (by kernel_rfl) (by kernel_rfl) (by decide) RBel.refl_ RBel.trans_ (by intro d v c a w h; cases d <;> exact h) ?_
      repeat (first | (refine wpC_quiet (v := ?_) rfl (by rfl) ?_ ?_; rotate_left; (· (intro w' hw'; go_simp; try with_reducible rfl)); simp only [Act.put, List.setIfInBounds_toArray, List.set_cons_zero, List.set_cons_succ]) | (refine wpC_val (v := ?_) (RBel.refl_) rfl (by rfl) ?_ ?_; rotate_left; (· (go_simp; try with_reducible rfl)); simp only [Act.put, List.setIfInBounds_toArray, List.set_cons_zero, List.set_cons_succ]) | (refine wpC_skip rfl (by rfl) ?_; simp only [Act.put, List.setIfInBounds_toArray, List.set_cons_zero, List.set_cons_succ]) | (refine wpC_skip' (RBel.refl_) rfl (by rfl) ?_; simp only [Act.put, List.setIfInBounds_toArray, List.set_cons_zero, List.set_cons_succ]))
      (refine wpC_loud rfl (by rfl) ?_; intro K hK; go_simp)
      refine (right_any ue 6 _ ke (by omega) (by omega)).mono ?_
      rintro e w' ⟨rfl, rfl⟩
      (refine hK.out _ _ (RBel.refl_ _) ?_; clear hK K; try simp only [Act.put, List.setIfInBounds_toArray, List.set_cons_zero, List.set_cons_succ])
      (refine wpC_loud rfl (by rfl) ?_; intro K hK; go_simp)
      refine (right_any ue 11 _ ke (by omega) (by omega)).mono ?_
      rintro e w' ⟨rfl, rfl⟩
      (refine hK.out _ _ (RBel.refl_ _) ?_; clear hK K; try simp only [Act.put, List.setIfInBounds_toArray, List.set_cons_zero, List.set_cons_succ])
      repeat (first | (refine wpC_quiet (v := ?_) rfl (by rfl) ?_ ?_; rotate_left; (· (intro w' hw'; go_simp; try with_reducible rfl)); simp only [Act.put, List.setIfInBounds_toArray, List.set_cons_zero, List.set_cons_succ]) | (refine wpC_val (v := ?_) (RBel.refl_) rfl (by rfl) ?_ ?_; rotate_left; (· (go_simp; try with_reducible rfl)); simp only [Act.put, List.setIfInBounds_toArray, List.set_cons_zero, List.set_cons_succ]) | (refine wpC_skip rfl (by rfl) ?_; simp only [Act.put, List.setIfInBounds_toArray, List.set_cons_zero, List.set_cons_succ]) | (refine wpC_skip' (RBel.refl_) rfl (by rfl) ?_; simp only [Act.put, List.setIfInBounds_toArray, List.set_cons_zero, List.set_cons_succ]))
      (refine wpC_loud rfl (by rfl) ?_; intro K hK; go_simp)
      refine (right_any ue 25 _ ke (by omega) (by omega)).mono ?_
      rintro e w' ⟨rfl, rfl⟩
      (refine hK.out _ _ (RBel.refl_ _) ?_; clear hK K; try simp only [Act.put, List.setIfInBounds_toArray, List.set_cons_zero, List.set_cons_succ])
      repeat (first | (refine wpC_quiet (v := ?_) rfl (by rfl) ?_ ?_; rotate_left; (· (intro w' hw'; go_simp; try with_reducible rfl)); simp only [Act.put, List.setIfInBounds_toArray, List.set_cons_zero, List.set_cons_succ]) | (refine wpC_val (v := ?_) (RBel.refl_) rfl (by rfl) ?_ ?_; rotate_left; (· (go_simp; try with_reducible rfl)); simp only [Act.put, List.setIfInBounds_toArray, List.set_cons_zero, List.set_cons_succ]) | (refine wpC_skip rfl (by rfl) ?_; simp only [Act.put, List.setIfInBounds_toArray, List.set_cons_zero, List.set_cons_succ]) | (refine wpC_skip' (RBel.refl_) rfl (by rfl) ?_; simp only [Act.put, List.setIfInBounds_toArray, List.set_cons_zero, List.set_cons_succ]))
      refine wpC_nil ?_
      clear c5 c6 c7 ck cx Y0 Y1 Y2 sg
      go_wp2_with fail
      have c0 : ∀ w', RBel wr.drew.drew.drew w' → w'.cell? ⟨p7, 0, none⟩ = some (.int .u32 (ua : Int)) := Blk.at_ (w := wr.drew.drew.drew) bi 0 rfl
      have c1 : ∀ w', RBel wr.drew.drew.drew w' → w'.cell? ⟨p7, 1, none⟩ = some (.int .u32 (ub : Int)) := Blk.at_ (w := wr.drew.drew.drew) bi 1 rfl
      have c2 : ∀ w', RBel wr.drew.drew.drew w' → w'.cell? ⟨p7, 2, none⟩ = some (.int .u32 (uc : Int)) := Blk.at_ (w := wr.drew.drew.drew) bi 2 rfl
      have Y0 := usig0_bits ua ka
      have Y1 := maj_bits ua ub uc ka kb kc
      have Y2 := sum2 (usig0 ua) (maj ua ub uc)
      obtain ⟨Y, hY⟩ : ∃ Y, Y = (usig0 ua + maj ua ub uc) % 4294967296 := ⟨_, rfl⟩
      have hYl : Y < 4294967296 := by rw [hY]; exact Nat.mod_lt _ (by decide)
      rw [← hY] at Y2
      have HY := Lib.hid hY
      clear hY
      refine wp_region_C [(0, true), (2, true), (5, true), (8, true), (9, true), (10, true), (11, true), (12, true), (13, true), (14, true), (15, true), (16, true), (17, true), (18, true), (19, true), (20, true), (21, true), (22, true), (1, false), (3, false), (4, true), (6, false), (7, false), (23, false), (24, false)] RBel (by kernel_rfl) (by kernel_rfl) (by kernel_rfl) (by decide) RBel.refl_ RBel.trans_ (by intro d v c a w h; cases d <;> exact h) ?_
      repeat (first | (refine wpC_quiet (v := ?_) rfl (by rfl) ?_ ?_; rotate_left; (· (intro w' hw'; go_simp; try with_reducible rfl)); simp only [Act.put, List.setIfInBounds_toArray, List.set_cons_zero, List.set_cons_succ]) | (refine wpC_val (v := ?_) (RBel.refl_) rfl (by rfl) ?_ ?_; rotate_left; (· (go_simp; try with_reducible rfl)); simp only [Act.put, List.setIfInBounds_toArray, List.set_cons_zero, List.set_cons_succ]) | (refine wpC_skip rfl (by rfl) ?_; simp only [Act.put, List.setIfInBounds_toArray, List.set_cons_zero, List.set_cons_succ]) | (refine wpC_skip' (RBel.refl_) rfl (by rfl) ?_; simp only [Act.put, List.setIfInBounds_toArray, List.set_cons_zero, List.set_cons_succ]))
      (refine wpC_loud rfl (by rfl) ?_; intro K hK; go_simp)
      refine (right_any ua 2 _ ka (by omega) (by omega)).mono ?_
      rintro e w' ⟨rfl, rfl⟩
      (refine hK.out _ _ (RBel.refl_ _) ?_; clear hK K; try simp only [Act.put, List.setIfInBounds_toArray, List.set_cons_zero, List.set_cons_succ])
      (refine wpC_loud rfl (by rfl) ?_; intro K hK; go_simp)
      refine (right_any ua 13 _ ka (by omega) (by omega)).mono ?_
      rintro e w' ⟨rfl, rfl⟩
      (refine hK.out _ _ (RBel.refl_ _) ?_; clear hK K; try simp only [Act.put, List.setIfInBounds_toArray, List.set_cons_zero, List.set_cons_succ])
      repeat (first | (refine wpC_quiet (v := ?_) rfl (by rfl) ?_ ?_; rotate_left; (· (intro w' hw'; go_simp; try with_reducible rfl)); simp only [Act.put, List.setIfInBounds_toArray, List.set_cons_zero, List.set_cons_succ]) | (refine wpC_val (v := ?_) (RBel.refl_) rfl (by rfl) ?_ ?_; rotate_left; (· (go_simp; try with_reducible rfl)); simp only [Act.put, List.setIfInBounds_toArray, List.set_cons_zero, List.set_cons_succ]) | (refine wpC_skip rfl (by rfl) ?_; simp only [Act.put, List.setIfInBounds_toArray, List.set_cons_zero, List.set_cons_succ]) | (refine wpC_skip' (RBel.refl_) rfl (by rfl) ?_; simp only [Act.put, List.setIfInBounds_toArray, List.set_cons_zero, List.set_cons_succ]))
      (refine wpC_loud rfl (by rfl) ?_; intro K hK; go_simp)
      refine (right_any ua 22 _ ka (by omega) (by omega)).mono ?_
      rintro e w' ⟨rfl, rfl⟩
      (refine hK.out _ _ (RBel.refl_ _) ?_; clear hK K; try simp only [Act.put, List.setIfInBounds_toArray, List.set_cons_zero, List.set_cons_succ])
      repeat (first | (refine wpC_quiet (v := ?_) rfl (by rfl) ?_ ?_; rotate_left; (· (intro w' hw'; go_simp; try with_reducible rfl)); simp only [Act.put, List.setIfInBounds_toArray, List.set_cons_zero, List.set_cons_succ]) | (refine wpC_val (v := ?_) (RBel.refl_) rfl (by rfl) ?_ ?_; rotate_left; (· (go_simp; try with_reducible rfl)); simp only [Act.put, List.setIfInBounds_toArray, List.set_cons_zero, List.set_cons_succ]) | (refine wpC_skip rfl (by rfl) ?_; simp only [Act.put, List.setIfInBounds_toArray, List.set_cons_zero, List.set_cons_succ]) | (refine wpC_skip' (RBel.refl_) rfl (by rfl) ?_; simp only [Act.put, List.setIfInBounds_toArray, List.set_cons_zero, List.set_cons_succ]))
      refine wpC_nil ?_
      clear c0 c1 c2 Y0 Y1 Y2
      have bi3 : Blk wr.drew.drew.drew p7 90 (V32 [ua, ub, uc, ud, ue, uf, ug, uh]) := bi
      have hbi3 : RBut (some p7) V7 wr.drew.drew.drew := RBut.trans_ _ _ _ _ hbi (RBut.of_below (Below.refl _ _).drew.drew.drew)
      generalize wr.drew.drew.drew = wt at *
      have d0 := bi3.cell 0
      have d1 := bi3.cell 1
      have d2 := bi3.cell 2
      have d3 := bi3.cell 3
      have d4 := bi3.cell 4
      have d5 := bi3.cell 5
      have d6 := bi3.cell 6
      have d7 := bi3.cell 7
      have f0 := bi3.fz 0
      have f1 := bi3.fz 1
      have f2 := bi3.fz 2
      have f3 := bi3.fz 3
      have f4 := bi3.fz 4
      have f5 := bi3.fz 5
      have f6 := bi3.fz 6
      have f7 := bi3.fz 7
      simp only [V32, List.map_cons, List.getElem?_cons_zero, List.getElem?_cons_succ] at d0 d1 d2 d3 d4 d5 d6 d7
      obtain ⟨Z, hZ⟩ : ∃ Z, Z = (X + Y) % 4294967296 := ⟨_, rfl⟩
      obtain ⟨Z2, hZ2⟩ : ∃ Z2, Z2 = (ud + X) % 4294967296 := ⟨_, rfl⟩
      have hs : rnds ws s (i + 1) = ⟨Z, ua, ub, uc, Z2, ue, uf, ug⟩ := by
        rw [HR.out, hZ, hZ2, HX.out, HY.out]
        unfold rnd
        simp only [S8.mk.injEq, and_true, true_and]
        omega
      have z1 : ((X : Int) + (Y : Int)) % 4294967296 = (Z : Int) := by omega
      have z2 : ((ud : Int) + (X : Int)) % 4294967296 = (Z2 : Int) := by omega
      have HS := Lib.hid hs
      clear hZ hZ2 hs
      go_wp2_with fail
      have st := store8 bi3 (.int .u32 (Z : Int)) (.int .u32 (ua : Int)) (.int .u32 (ub : Int)) (.int .u32 (uc : Int)) (.int .u32 (Z2 : Int)) (.int .u32 (ue : Int)) (.int .u32 (uf : Int)) (.int .u32 (ug : Int))
      go_roundw
      case rel => exact ⟨i + 1, by omega, by go_num, by rw [HS.out]; exact st.1, RBut.trans_ _ _ _ _ hbi3 st.2⟩
      case measure => simp [intOf]; omega
    · have t1 : ¬ (i : Int) < 64 := by omega
      obtain rfl : i = 64 := by omega
      go_wp2_with fail
      have hoki := rnds_ok ws hok 64
      have v2i := v2'.but hbi (fun h => by injection h; omega)
      have v4i := v4'.but hbi (fun h => by injection h; omega)
      obtain ⟨T, hT⟩ : ∃ T, T = rnds ws s 64 := ⟨_, rfl⟩
      rw [← hT] at bi hoki
      have HT := Lib.hid hT
      clear hT v2' v4' v5' v6'
      go_loopw [100] (fun v wq => ∃ j : Nat, j ≤ 8 ∧ v = .int .i64 j ∧ Blk wq p7 90 (V32 (mix T s j)) ∧ RBut (some p7) wr wq) (fun v _ => 8 - (intOf v).toNat)
      case atStart => exact ⟨0, by omega, rfl, bi, RBut.refl_ _ _⟩
      case round =>
        obtain ⟨j, hj, rfl, bj, hbj⟩ := hrel
        by_cases hlt : j < 8
        · have t1 : (j : Int) < 8 := by omega
          obtain ⟨x, y, hx, hy, hm⟩ := mix_at T s j hlt
          have v2j := v2i.but hbj (fun h => by injection h; omega)
          have cx : wr.drew.cell? ⟨p7, j, none⟩ = _ := (bj.cell j).trans (V32_get hx)
          have cy : wr.drew.cell? ⟨N, j, none⟩ = _ := (v2j.cell j).trans (V32_get hy)
          have fx : wr.drew.frozen? ⟨p7, j, none⟩ = _ := bj.fz j
          have bs := Blk.set_ (w := wr.drew) bj j (.int .u32 (((x + y) % 4294967296 : Nat) : Int))
          have hbs := RBut.trans_ _ _ _ _ (RBut.trans_ _ _ _ _ hbj (RBut.of_below (Below.refl _ _).drew)) (RBut.setC wr.drew p7 j (.int .u32 (((x + y) % 4294967296 : Nat) : Int)))
          have Y2 := sum2 x y
          have BS := Lib.hid bs
          have HM := Lib.hid hm
          have HBS := Lib.hid hbs
          clear hx hy hm bs hbs
          go_wp2_with fail
          have cx0 : wr.cell? ⟨p7, j, none⟩ = _ := cx
          have cy0 : wr.cell? ⟨N, j, none⟩ = _ := cy
          go_still_tail 8, (by kernel_rfl)
          clear cx0 cy0
          change wpList _ _ _ _ _ wr.drew
          generalize wr.drew = wd at *
          go_wp2_with fail
          have bs := BS.out
          rw [HM.out] at bs
          go_roundw
          case rel => exact ⟨j + 1, by omega, by go_num, bs, HBS.out⟩
          case measure => simp [intOf]; omega
        · have t1 : ¬ (j : Int) < 8 := by omega
          obtain rfl : j = 8 := by omega
          have v4j := v4i.but hbj (fun h => by injection h; omega)
          go_wp2_with (first
            | (refine wpl_load_blk rfl _ _ rfl p7 rfl 90 (V32 (addS T s).list) _ bj Try.underlying90 rfl (info_st rfl) ?_)
            | (refine wpl_store_blk rfl _ _ _ rfl (N + 1) 90 (List.replicate 8 (.int .u32 0)) (V32 (addS T s).list) rfl rfl v4j rfl (info_st rfl) (V32_one _) ?_; intro w9 b9 hb9))
          have hfin : comp s l = addS T s := by rw [HT.out, HWS.out]; rfl
          rw [hfin]
          exact bodyPost_ret (v := .agg (V32 (addS T s).list).toArray) (results_blk Try.results62 rfl b9 Try.underlying90 rfl (info_st rfl)) rfl ⟨rfl, by
            rw [HN.out]
            have e1 := below_but hbi (show N ≤ p7 by omega) (show N ≤ V7.heap.size from HN.out ▸ hNV7.size)
            have e2 := below_but hbj (show N ≤ p7 by omega) (Nat.le_trans (HN.out ▸ hNV7.size) e1.size)
            have e3 := below_but hb9 (show N ≤ N + 1 by omega) (Nat.le_trans (Nat.le_trans (HN.out ▸ hNV7.size) e1.size) e2.size)
            exact hNV7.trans (e1.trans (e2.trans e3))⟩
end Go.Proofs.Ytakebmpnbdlcoaa
