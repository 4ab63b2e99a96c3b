/- The walk of game.Start. -/
import Derived.Test.YtaaiembhdfgkjaaGameW
import Derived.IntWalk
namespace Go.Proofs.Ytaaiembhdfgkjaa
open Go.RowKit
def zeroGD : GD := ⟨0, 0, zero32, zero32, zero32, 0, 0, 0, false, 0, 0⟩
theorem zero_game : Try.zeroCells41 = (gcells (.slice none 0 0) zeroGD).toArray := by kernel_rfl
theorem zeroGD_len : GLen zeroGD := ⟨rfl, rfl, rfl⟩
def startD (n : Int) (pre post : List UInt8) (now : Int) : GD := { zeroGD with hi := n, rlo := pre, rhi := post, limit := now + 3 }
theorem built_game (parts : List (Nat × Value)) : Try.prog.built 41 parts = Instr.fill ([(0, 1), (1, 1), (2, 1), (3, 32), (35, 32), (67, 32), (99, 1), (100, 1), (101, 1), (102, 1), (103, 1), (104, 1)].toArray[·]?) (gcells (.slice none 0 0) zeroGD).toArray parts := by
  rw [built_struct (z := .agg (gcells (.slice none 0 0) zeroGD).toArray) (places := [(0, 1), (1, 1), (2, 1), (3, 32), (35, 32), (67, 32), (99, 1), (100, 1), (101, 1), (102, 1), (103, 1), (104, 1)]) (by rw [← zero_game]; kernel_rfl) Try.underlying41 (by kernel_rfl)]
  rfl
theorem built_start (v : Value) (hv : v.cells = #[v]) (n : Int) (pre post : List UInt8) (h1 : pre.length = 32) (h2 : post.length = 32) (l : Int) :
    Try.prog.built 41 [(0, v), (2, .int .i64 n), (3, .agg (B8 pre).toArray), (4, .agg (B8 post).toArray), (8, .int .i64 l)] = some (gcells v { zeroGD with hi := n, rlo := pre, rhi := post, limit := l }).toArray := by
  rw [built_game]
  rw [fill_cons _ _ [v] 0 0 v _ rfl hv (by rw [gcells_len zeroGD_len]; simp), p_txs]
  rw [fill_cons _ _ [.int .i64 n] 2 2 _ _ rfl rfl (by rw [gcells_len zeroGD_len]; simp), p_hi]
  rw [fill_cons _ _ (B8 pre) 3 3 _ _ (by rw [B8_len, h1]; rfl) rfl (by rw [gcells_len ⟨rfl, rfl, rfl⟩, B8_len, h1]; omega), p_rlo ⟨rfl, rfl, rfl⟩ _ h1]
  rw [fill_cons _ _ (B8 post) 4 35 _ _ (by rw [B8_len, h2]; rfl) rfl (by rw [gcells_len ⟨h1, rfl, rfl⟩, B8_len, h2]; omega), p_rhi ⟨h1, rfl, rfl⟩ _ h2]
  rw [fill_cons _ _ [.int .i64 l] 8 101 _ _ rfl rfl (by rw [gcells_len ⟨h1, h2, rfl⟩]; simp), p_limit ⟨h1, h2, rfl⟩]
  rfl
/-- A call that hands back a game over transactions of its own, and an error. -/
def RGe (w : World) (hs : List (List UInt8)) (n : Nat) (r : GD × Int) (en : Ending) (w' : World) : Prop := ∃ A c, en = .returned (.tuple #[gval (.slice A n c) r.1, .int .i64 r.2]) ∧ Sl w' 32 A n (H8 hs) ∧ Below w.heap.size w w' ∧ ∀ b, A.map (·.block) = some b → w.heap.size ≤ b
set_option maxRecDepth 100000 in
set_option maxHeartbeats 1000000 in
theorem start_ok (A : Option Addr) (n c : Nat) (hs : List (List UInt8)) (pre post : List UInt8) (now : Int) (w : World) (h : Sl w 32 A n (H8 hs)) (h1 : 1 ≤ n) (h2 : n ≤ 2048) (hp : pre.length = 32) (hq : post.length = 32) (hc : clockB now) :
    Calls Try.prog 26 #[.slice A n c, hv pre, hv post, .int .i64 now] w (RGe w hs n (turnD (startD n pre post now), 0)) := by
  obtain ⟨W, HW, hbw, bp, bq, zb⟩ : ∃ W, Hid (W = ((w.alloc (.cells (B8 pre).toArray 26)).alloc (.cells (B8 post).toArray 26)).alloc (.cells Try.zeroCells41 41)) ∧ Below w.heap.size w W ∧
      Blk W w.heap.size 26 (B8 pre) ∧ Blk W (w.heap.size + 1) 26 (B8 post) ∧ Blk W (w.heap.size + 2) 41 Try.zeroCells41.toList := by
    refine ⟨_, rfl, (((Below.refl _ _).alloc (Nat.le_refl _) _).alloc (by simp) _).alloc (by simp; omega) _, ?_, ?_, ?_⟩
    · exact (Blk.new w (B8 pre).toArray 26).to (((Below.refl _ _).alloc (Nat.le_refl _) _).alloc (by simp) _)
    · have := (Blk.new (w.alloc (.cells (B8 pre).toArray 26)) (B8 post).toArray 26).to ((Below.refl _ _).alloc (Nat.le_refl _) (.cells Try.zeroCells41 41))
      simpa using this
    · have := Blk.new ((w.alloc (.cells (B8 pre).toArray 26)).alloc (.cells (B8 post).toArray 26)) Try.zeroCells41 41
      rw [show ((w.alloc (.cells (B8 pre).toArray 26)).alloc (.cells (B8 post).toArray 26)).heap.size = w.heap.size + 2 from by simp] at this
      exact this
  have hW := h.to hbw
  have HP := Lib.hid hp
  have HQ := Lib.hid hq
  have CY := Lib.hid (clock_yes now W hc)
  obtain ⟨hc1, hc2⟩ := hc
  clear hp hq
  unfold hv
  go_enter Try.func26, Try.ntmps26
  go_upto_region 1 with fail
  refine wp_at HW.out ?_
  clear HW
  go_wp2_with fail
  refine CY.out.mono ?_
  rintro e w' ⟨rfl, rfl⟩
  go_wp2_with fail
  have hdl : GLen (startD n pre post now) := ⟨HP.out, HQ.out, rfl⟩
  have k3 : IntKind.i64.wrap (now + 3) = now + 3 := IntWalk.i64_in _ (by omega)
  refine wp_region_T [0, 2, 3, 4, 5, 6, 7] 1 9 [(8, true), (9, false), (10, false)] [(1, false), (8, true), (10, false)] (Below W.heap.size) (by kernel_rfl) (by kernel_rfl) (by kernel_rfl) (by decide) (by decide) (Below.refl _) (fun _ _ _ => Below.trans) (by intro d v c a w h; cases d <;> exact h) ?_
  have hWd := hW.drew
  have bpd : Blk W.drew w.heap.size 26 (B8 pre) := bp
  have bqd : Blk W.drew (w.heap.size + 1) 26 (B8 post) := bq
  have zbd : Blk W.drew (w.heap.size + 2) 41 Try.zeroCells41.toList := zb
  have hbd : Below w.heap.size w W.drew := hbw.drew
  have hsz : W.heap.size = W.drew.heap.size := rfl
  clear hW bp bq zb hbw CY
  rw [hsz]
  clear hsz
  generalize W.drew = V at *
  have rp : ∀ w', Below V.heap.size V w' → w'.rangeAt w.heap.size 0 (B8 pre) := fun w' hw' => (bpd.below hw' bpd.lt).range
  have rq : ∀ w', Below V.heap.size V w' → w'.rangeAt (w.heap.size + 1) 0 (B8 post) := fun w' hw' => (bqd.below hw' bqd.lt).range
  repeat (first | (refine wpT_quiet (v := ?_) rfl (by rfl) ?_ ?_; rotate_left; (· (intro w' hw'; go_simp; try with_reducible rfl)); simp only [Act.put, List.setIfInBounds_toArray, List.set_cons_zero, List.set_cons_succ]) | (refine wpT_skip rfl (by rfl) ?_; simp only [Act.put, List.setIfInBounds_toArray, List.set_cons_zero, List.set_cons_succ]))
  refine wpT_load rfl (by rfl) _ _ rfl w.heap.size 0 rfl (B8 pre) _ rp Try.underlying26 rfl (info_hash HP.out) ?_
  simp only [Act.put, List.setIfInBounds_toArray, List.set_cons_zero, List.set_cons_succ]
  refine wpT_load rfl (by rfl) _ _ rfl (w.heap.size + 1) 0 rfl (B8 post) _ rq Try.underlying26 rfl (info_hash HQ.out) ?_
  simp only [Act.put, List.setIfInBounds_toArray, List.set_cons_zero, List.set_cons_succ]
  repeat (first | (refine wpT_quiet (v := ?_) rfl (by rfl) ?_ ?_; rotate_left; (· (intro w' hw'; go_simp; try with_reducible rfl)); simp only [Act.put, List.setIfInBounds_toArray, List.set_cons_zero, List.set_cons_succ]) | (refine wpT_skip rfl (by rfl) ?_; simp only [Act.put, List.setIfInBounds_toArray, List.set_cons_zero, List.set_cons_succ]))
  refine wpT_nil ?_ ?_
  · clear rp rq
    (refine wpC_loud rfl (by rfl) ?_; intro K hK; go_simp)
    refine (clone_H A n c _ _ hWd (H8_one hs) (by omega)).mono ?_
    rintro e w1 ⟨A1, n1, c1, rfl, ho1, hb1⟩
    obtain rfl : n = n1 := by have := ho1.len; have := h.len; omega
    (refine hK.out _ _ (hb1) ?_; clear hK K; try simp only [Act.put, List.setIfInBounds_toArray, List.set_cons_zero, List.set_cons_succ])
    refine wpC_build_t rfl (by rfl) _ _ rfl _ (built_start (.slice A1 n c1) rfl n pre post HP.out HQ.out (now + 3)) ?_
    simp only [Act.put, List.setIfInBounds_toArray, List.set_cons_zero, List.set_cons_succ]
    clear k3
    (refine wpC_loud rfl (by rfl) ?_; intro K hK; go_simp)
    have f1 : Below V.heap.size V w1 := hb1
    (refine hK.out _ _ ((Below.refl _ _).alloc (by exact f1.size) _) ?_; clear hK K; try simp only [Act.put, List.setIfInBounds_toArray, List.set_cons_zero, List.set_cons_succ])
    have bz : Blk (w1.alloc (.cells Try.zeroCells41 41)) w1.heap.size 41 Try.zeroCells41.toList := Blk.new w1 _ _
    have f2 : Below V.heap.size V (w1.alloc (.cells Try.zeroCells41 41)) := f1.alloc (by exact f1.size) _
    have sl2 := ho1.sl.alloc (.cells Try.zeroCells41 41)
    have ob : ∀ b, A1.map (·.block) = some b → V.heap.size ≤ b ∧ b < w1.heap.size := fun b hb => ho1.lt b hb
    have hg : V.heap.size ≤ w1.heap.size := f1.size
    generalize w1.alloc (.cells Try.zeroCells41 41) = w2 at *
    generalize w1.heap.size = g at *
    have hgs := bz.lt
    refine wpC_store_fld rfl (by rfl) _ _ _ rfl g 0 41 _ (gcells (.slice A1 n c1) (startD n pre post now)) rfl _ rfl rfl bz (by rw [gcells_len hdl, zero_len]; omega) (info_game hdl) (gcells_one rfl) (fun w' h => below_but h hg f2.size) ?_
    intro w3 bz3 bu3
    rw [put_all _ _ (by rw [gcells_len hdl, zero_len])] at bz3
    have gb3 : GB 41 w3 g (.slice A1 n c1) (startD n pre post now) := ⟨bz3, hdl⟩
    have f3 : Below V.heap.size V w3 := f2.trans (below_but bu3 hg f2.size)
    have sl3 := sl2.but2 bu3 (fun b hb h => by injection h with h; have := (ob b hb).2; omega)
    simp only [Act.put, List.setIfInBounds_toArray, List.set_cons_zero, List.set_cons_succ]
    refine wpC_nil ?_
    go_wp2_with (first
      | (refine wpl_gload gb3 (by rfl) _ _ rfl rfl _ Try.underlying41 rfl info_g ?_))
    refine (turn_any _ rfl _ hdl _ (by show _ ≤ (0 : Int); omega) (by show (0 : Int) ≤ _; omega) (by show _ ≤ (n : Int); omega) (by show (n : Int) ≤ _; omega)).mono ?_
    rintro e w4 ⟨rfl, hb4⟩
    have f4 := f3.trans (hb4.mono f3.size)
    have zb4 := zbd.below (f4) zbd.lt
    have hdt : GLen (turnD (startD n pre post now)) := ⟨HP.out, HQ.out, rfl⟩
    go_wp2_with (first
      | (refine wpl_gput zb4 zero_len hdt rfl (by rfl) _ _ _ rfl rfl rfl info_g ?_
         intro w5 gb5 bu5))
    have e4 : Below w.heap.size w w4 := hbd.trans (f4.mono hbd.size)
    refine bodyPost_ret (results_blk2 Try.results26 rfl rfl gb5.blk Try.underlying41 rfl (info_game gb5.len)) rfl ⟨A1, c1, rfl, ?_, e4.trans (below_but bu5 (by omega) e4.size), fun b hb => by have := (ob b hb).1; have := hbd.size; omega⟩
    exact ((sl3.to hb4).but2 bu5 (fun b hb h => by injection h with h; have := (ob b hb).1; have := zbd.lt; omega))
  · clear rp rq
    (refine wpC_loud rfl (by rfl) ?_; intro K hK; go_simp)
    (refine hK.out _ _ ((Below.refl _ _).alloc (Nat.le_refl _) _) ?_; clear hK K; try simp only [Act.put, List.setIfInBounds_toArray, List.set_cons_zero, List.set_cons_succ])
    have bz : Blk (V.alloc (.cells Try.zeroCells41 41)) V.heap.size 41 Try.zeroCells41.toList := Blk.new V _ _
    have f1 : Below V.heap.size V (V.alloc (.cells Try.zeroCells41 41)) := (Below.refl _ _).alloc (Nat.le_refl _) _
    have sl1 := hWd.alloc (.cells Try.zeroCells41 41)
    have hgs := bz.lt
    generalize V.alloc (.cells Try.zeroCells41 41) = w1 at *
    (refine wpC_loud rfl (by rfl) ?_; intro K hK; go_simp)
    refine (clone_H A n c _ _ sl1 (H8_one hs) (by omega)).mono ?_
    rintro e w2 ⟨A1, n1, c1, rfl, ho1, hb1⟩
    obtain rfl : n = n1 := by have := ho1.len; have := h.len; omega
    have f2 := f1.trans (hb1.mono f1.size)
    (refine hK.out _ _ (hb1.mono f1.size) ?_; clear hK K; try simp only [Act.put, List.setIfInBounds_toArray, List.set_cons_zero, List.set_cons_succ])
    refine wpC_build_t rfl (by rfl) _ _ rfl _ (built_start (.slice A1 n c1) rfl n pre post HP.out HQ.out (now + 3)) ?_
    simp only [Act.put, List.setIfInBounds_toArray, List.set_cons_zero, List.set_cons_succ]
    clear k3
    have ob : ∀ b, A1.map (·.block) = some b → w1.heap.size ≤ b ∧ b < w2.heap.size := fun b hb => ho1.lt b hb
    have bz2 := bz.to hb1
    refine wpC_store_fld rfl (by rfl) _ _ _ rfl V.heap.size 0 41 _ (gcells (.slice A1 n c1) (startD n pre post now)) rfl _ rfl rfl bz2 (by rw [gcells_len hdl, zero_len]; omega) (info_game hdl) (gcells_one rfl) (fun w' h => below_but h (Nat.le_refl _) f2.size) ?_
    intro w3 bz3 bu3
    rw [put_all _ _ (by rw [gcells_len hdl, zero_len])] at bz3
    have gb3 : GB 41 w3 V.heap.size (.slice A1 n c1) (startD n pre post now) := ⟨bz3, hdl⟩
    have f3 : Below V.heap.size V w3 := f2.trans (below_but bu3 (Nat.le_refl _) f2.size)
    have sl3 := ho1.sl.but2 bu3 (fun b hb h => by injection h with h; have := (ob b hb).1; omega)
    simp only [Act.put, List.setIfInBounds_toArray, List.set_cons_zero, List.set_cons_succ]
    refine wpC_nil ?_
    go_wp2_with (first
      | (refine wpl_gload gb3 (by rfl) _ _ rfl rfl _ Try.underlying41 rfl info_g ?_))
    refine (turn_any _ rfl _ hdl _ (by show _ ≤ (0 : Int); omega) (by show (0 : Int) ≤ _; omega) (by show _ ≤ (n : Int); omega) (by show (n : Int) ≤ _; omega)).mono ?_
    rintro e w4 ⟨rfl, hb4⟩
    have f4 := f3.trans (hb4.mono f3.size)
    have zb4 := zbd.below (f4) zbd.lt
    have hdt : GLen (turnD (startD n pre post now)) := ⟨HP.out, HQ.out, rfl⟩
    go_wp2_with (first
      | (refine wpl_gput zb4 zero_len hdt rfl (by rfl) _ _ _ rfl rfl rfl info_g ?_
         intro w5 gb5 bu5))
    have e4 : Below w.heap.size w w4 := hbd.trans (f4.mono hbd.size)
    refine bodyPost_ret (results_blk2 Try.results26 rfl rfl gb5.blk Try.underlying41 rfl (info_game gb5.len)) rfl ⟨A1, c1, rfl, ?_, e4.trans (below_but bu5 (by omega) e4.size), fun b hb => by have := (ob b hb).1; have := hbd.size; have := f1.size; omega⟩
    exact ((sl3.to hb4).but2 bu5 (fun b hb h => by injection h with h; have := (ob b hb).1; have := zbd.lt; have := f1.size; omega))
end Go.Proofs.Ytaaiembhdfgkjaa
