/- Walks: the document's reader: Hash. -/
import Derived.Test.YtoecbgdkbncfbaaRr3
import Derived.Deep.Cut
namespace Go.Proofs.Ytoecbgdkbncfbaa
open Go.RowKit
theorem Sl.but3 {w w' : World} {row : Option Nat} {size n : Nat} {A : Option Addr} {xs : List Value} (h : Sl w size A n xs) (hr : RBut row w w') (hne : ∀ b, 0 < n → A.map (·.block) = some b → some b ≠ row) : Sl w' size A n xs := by
  refine ⟨h.len, fun hn => ?_⟩
  obtain ⟨b, o, e, hb, hc⟩ := h.cells hn
  subst e
  exact (h.but hr (hne b hn rfl)).cells hn
theorem fill8' (l : List UInt8) (k i : Nat) (x : UInt8) (hl : l.length = i) (hk : 0 < k) : (B8 (l ++ List.replicate k 0)).set i (.int .u8 (x.toNat : Int)) = B8 (l ++ [x] ++ List.replicate (k - 1) 0) := by
  obtain ⟨k, rfl⟩ : ∃ j, k = j + 1 := ⟨k - 1, by omega⟩
  rw [B8, List.map_append, List.set_append_right _ _ (by simp [hl]), List.length_map, hl, Nat.sub_self, List.replicate_succ, List.map_cons, List.set_cons_zero]
  simp [B8, b8]
set_option maxRecDepth 100000 in
set_option maxHeartbeats 2000000 in
theorem rrHash_any (H p : Nat) (s : List UInt8 × Int) (w : World) (hr : Rr H w p s.1 s.2) :
    Calls Try.prog 28 #[.pointer (some ⟨p, 0, none⟩)] w (RFr H w p (hv (stHash s).1) (stHash s).2) := by
  obtain ⟨rest, e⟩ := s
  obtain ⟨A, n, c, P, bs, hc, hnc, hcm, hs, hAH, hP, hx⟩ := hr
  have hA := hAH.away
  dsimp only at hc hx
  have bN : Blk (w.alloc (.cells #[.int .u8 0, .int .u8 0, .int .u8 0, .int .u8 0, .int .u8 0, .int .u8 0, .int .u8 0, .int .u8 0, .int .u8 0, .int .u8 0, .int .u8 0, .int .u8 0, .int .u8 0, .int .u8 0, .int .u8 0, .int .u8 0, .int .u8 0, .int .u8 0, .int .u8 0, .int .u8 0, .int .u8 0, .int .u8 0, .int .u8 0, .int .u8 0, .int .u8 0, .int .u8 0, .int .u8 0, .int .u8 0, .int .u8 0, .int .u8 0, .int .u8 0, .int .u8 0] 29)) w.heap.size 29 (B8 zero32) := Blk.new w _ _
  have hb0 : Below w.heap.size w (w.alloc (.cells #[.int .u8 0, .int .u8 0, .int .u8 0, .int .u8 0, .int .u8 0, .int .u8 0, .int .u8 0, .int .u8 0, .int .u8 0, .int .u8 0, .int .u8 0, .int .u8 0, .int .u8 0, .int .u8 0, .int .u8 0, .int .u8 0, .int .u8 0, .int .u8 0, .int .u8 0, .int .u8 0, .int .u8 0, .int .u8 0, .int .u8 0, .int .u8 0, .int .u8 0, .int .u8 0, .int .u8 0, .int .u8 0, .int .u8 0, .int .u8 0, .int .u8 0, .int .u8 0] 29)) := (Below.refl _ _).alloc (Nat.le_refl _) _
  have hcW := hc.keep (hb0.block p hc.lt)
  have hsW := hs.to hb0
  have hpw := hc.lt
  have hAw : ∀ b, 0 < n → A.map (·.block) = some b → b < w.heap.size := by
    intro b hn hb
    obtain ⟨b', o', e', hb', _⟩ := hs.cells hn
    subst e'
    simp at hb
    omega
  have HAW := Lib.hid hAw
  clear hAw
  have hn8 := hs.len8
  have HN8 := Lib.hid hn8
  have HX := Lib.hid hx
  clear hn8 hx hc hs
  by_cases h0 : e = 0
  · subst h0
    have hxr := HX.out rfl
    have hrl : rest.length = n - P := by rw [hxr, List.length_drop, ← HN8.out]
    by_cases hsh : n - P < 32
    · have hst : stHash (rest, 0) = (zero32, ([], 8)) := by simp [stHash, hrl, hsh]
      have HST := Lib.hid hst
      have ts : (n : Int) - (P : Int) < 32 := by omega
      clear hst hrl hxr HX
      go_enter Try.func28, Try.ntmps28
      go_wp2_with fail
      generalize w.alloc (.cells #[.int .u8 0, .int .u8 0, .int .u8 0, .int .u8 0, .int .u8 0, .int .u8 0, .int .u8 0, .int .u8 0, .int .u8 0, .int .u8 0, .int .u8 0, .int .u8 0, .int .u8 0, .int .u8 0, .int .u8 0, .int .u8 0, .int .u8 0, .int .u8 0, .int .u8 0, .int .u8 0, .int .u8 0, .int .u8 0, .int .u8 0, .int .u8 0, .int .u8 0, .int .u8 0, .int .u8 0, .int .u8 0, .int .u8 0, .int .u8 0, .int .u8 0, .int .u8 0] 29) = W at *
      generalize hN : w.heap.size = N at *
      have HN := Lib.hid hN
      clear hN
      refine wp_region_C [(0, false), (1, false), (2, false), (3, false), (4, false), (5, false), (6, true), (7, true), (8, true), (9, true), (10, true), (11, false), (12, false), (13, false), (14, false), (15, false), (16, false), (17, false)] RBel (by kernel_rfl) (by kernel_rfl) (by kernel_rfl) (by decide) RBel.refl_ RBel.trans_ (by intro d v c a w h; cases d <;> exact h) ?_
      have hcd := hcW.drew
      have swd := hsW.drew
      have bd : Blk W.drew N 29 (B8 zero32) := bN
      have hbd : Below N w W.drew := hb0.drew
      clear hcW hsW bN hb0
      generalize W.drew = wd at *
      have hcw : ∀ w', RBel wd w' → RrC w' p A n c P 0 := fun w' hw' => hcd.keep (hw'.block p hcd.lt)
      have c0 := fun w' hw' => (hcw w' hw').c0
      have c1 := fun w' hw' => (hcw w' hw').c1
      have d0 := hcd.c0
      have d1 := hcd.c1
      have d2 := hcd.c2
      have w1s : IntKind.i64.wrap ((n : Int) - (P : Int)) = (n : Int) - (P : Int) := IntWalk.i64_in _ (by omega)
      repeat (first | (refine wpC_quiet (v := ?_) rfl (by rfl) ?_ ?_; rotate_left; (· (intro w' hw'; go_simp; try with_reducible rfl)); simp only [Act.put, List.setIfInBounds_toArray, List.set_cons_zero, List.set_cons_succ]) | (refine wpC_val (v := ?_) (RBel.refl_) rfl (by rfl) ?_ ?_; rotate_left; (· (go_simp; try with_reducible rfl)); simp only [Act.put, List.setIfInBounds_toArray, List.set_cons_zero, List.set_cons_succ]) | (refine wpC_skip rfl (by rfl) ?_; simp only [Act.put, List.setIfInBounds_toArray, List.set_cons_zero, List.set_cons_succ]) | (refine wpC_skip' (RBel.refl_) rfl (by rfl) ?_; simp only [Act.put, List.setIfInBounds_toArray, List.set_cons_zero, List.set_cons_succ]))
      refine wpC_nil ?_
      clear c0 c1 hcw w1s d0 d1
      have fzd := hcd.fz 2
      have hc8 := hcd.set2 8
      have hne : p ≠ N := by omega
      have bd8 : Blk (wd.setCell ⟨p, 2, none⟩ (.int .i64 8)) N 29 (B8 zero32) := bd.but (RBut.setC wd p 2 (.int .i64 8)) (fun h => by injection h; omega)
      have sw8 := swd.but3 (RBut.setC wd p 2 (.int .i64 8)) (fun b _ hb h => away_ne hA b hb h)
      have hb8 : RBut (some p) w (wd.setCell ⟨p, 2, none⟩ (.int .i64 8)) := ⟨rfl |>.trans hbd.os, rfl |>.trans hbd.tape, rfl |>.trans hbd.output, Nat.le_trans hbd.size (RBut.setC wd p 2 (.int .i64 8)).size, fun k hk hkp => ((RBut.setC wd p 2 (.int .i64 8)).block k (Nat.lt_of_lt_of_le hk hbd.size) hkp).trans (hbd.block k (by have := HN.out; omega))⟩
      go_upto_region 3 with fail
      clear fzd d2 swd bd hcd
      generalize wd.setCell ⟨p, 2, none⟩ (.int .i64 8) = we at *
      go_upto_region 4 with (first
        | (refine wpl_store_new rfl _ _ _ rfl 29 _ (B8 zero32) rfl rfl rfl (info_hash rfl) zero32_one ?_; intro w2 bh h2))
      have hc2 := hc8.keep (h2.block p hc8.lt)
      have e2 := hc2.c2
      have sw2 := sw8.to h2
      have bN2 := bd8.to h2
      go_wp2_with (first
        | (refine wpl_load_blk rfl _ _ rfl we.heap.size rfl 29 (B8 zero32) _ bh Try.underlying29 rfl (info_hash rfl) ?_)
        | (refine wpl_store_blk rfl _ _ _ rfl N 29 (B8 zero32) (B8 zero32) rfl rfl bN2 rfl (info_hash rfl) zero32_one ?_; intro w3 b3 h3))
      rw [HST.out]
      have g1 : RBut (some p) w w2 := RBut.trans_ _ _ _ _ hb8 (RBut.of_below h2)
      have hfin : RBut (some p) w w3 := ⟨h3.os.trans g1.os, h3.tape.trans g1.tape, h3.output.trans g1.output, Nat.le_trans g1.size h3.size, fun k hk hkp => (h3.block k (Nat.lt_of_lt_of_le hk g1.size) (fun h => by injection h; have := HN.out; omega)).trans (g1.block k hk hkp)⟩
      exact bodyPost_ret (v := hv zero32) (results_blk Try.results28 rfl b3 Try.underlying29 rfl (info_hash rfl)) rfl ⟨rfl, Rr.err (hc2.keep (h3.block p hc2.lt (fun h => by injection h; omega))) hnc hcm (sw2.but3 h3 (fun b hn hb h => by
        injection h with h
        have := HAW.out b hn hb
        have := HN.out
        omega)) hAH hP (by decide), hfin⟩
    · have hst : stHash (rest, 0) = (rest.take 32, (rest.drop 32, 0)) := by simp [stHash, hrl, hsh]
      have HST := Lib.hid hst
      have ts : ¬ (n : Int) - (P : Int) < 32 := by omega
      have hXR := Lib.hid hxr
      have hP32 : P + 32 ≤ n := by omega
      obtain ⟨bA, oA, rfl, hbAw⟩ : ∃ bA oA, A = some ⟨bA, oA, none⟩ ∧ bA < w.heap.size := by
        obtain ⟨bA, oA, e1, _⟩ := hsW.some_ (by omega)
        exact ⟨bA, oA, e1, HAW.out bA (by omega) (by rw [e1]; rfl)⟩
      have hol : (rest.take 32).length = 32 := by rw [List.length_take, hrl]; omega
      have hget : ∀ i, i < 32 → ∃ x, (rest.take 32)[i]? = some x ∧ bs[P + i]? = some x := by
        intro i hi
        refine ⟨(rest.take 32)[i]'(by omega), List.getElem?_eq_getElem (by omega), ?_⟩
        rw [List.getElem_take, ← List.getElem?_drop, ← hxr]
        exact List.getElem?_eq_getElem _
      obtain ⟨out, hout⟩ : ∃ out, out = rest.take 32 := ⟨_, rfl⟩
      rw [← hout] at hol hget
      have HOUT := Lib.hid hout
      have HOL := Lib.hid hol
      have HGET := Lib.hid hget
      clear hst hrl hxr HX hout hol hget
      go_enter Try.func28, Try.ntmps28
      go_wp2_with fail
      generalize w.alloc (.cells #[.int .u8 0, .int .u8 0, .int .u8 0, .int .u8 0, .int .u8 0, .int .u8 0, .int .u8 0, .int .u8 0, .int .u8 0, .int .u8 0, .int .u8 0, .int .u8 0, .int .u8 0, .int .u8 0, .int .u8 0, .int .u8 0, .int .u8 0, .int .u8 0, .int .u8 0, .int .u8 0, .int .u8 0, .int .u8 0, .int .u8 0, .int .u8 0, .int .u8 0, .int .u8 0, .int .u8 0, .int .u8 0, .int .u8 0, .int .u8 0, .int .u8 0, .int .u8 0] 29) = W at *
      generalize hN : w.heap.size = N at *
      have HN := Lib.hid hN
      clear hN
      refine wp_region_C [(0, false), (1, false), (2, false), (3, false), (4, false), (5, false), (6, true), (7, true), (8, true), (9, true), (10, true), (11, false), (12, false), (13, false), (14, false), (15, false), (16, false), (17, false)] RBel (by kernel_rfl) (by kernel_rfl) (by kernel_rfl) (by decide) RBel.refl_ RBel.trans_ (by intro d v c a w h; cases d <;> exact h) ?_
      have hcd := hcW.drew
      have swd := hsW.drew
      have bd : Blk W.drew N 29 (B8 zero32) := bN
      have hbd : Below N w W.drew := hb0.drew
      clear hcW hsW bN hb0
      generalize W.drew = wd at *
      have hcw : ∀ w', RBel wd w' → RrC w' p (some ⟨bA, oA, none⟩) n c P 0 := fun w' hw' => hcd.keep (hw'.block p hcd.lt)
      have c0 := fun w' hw' => (hcw w' hw').c0
      have c1 := fun w' hw' => (hcw w' hw').c1
      have d0 := hcd.c0
      have d1 := hcd.c1
      have d2 := hcd.c2
      have w1s : IntKind.i64.wrap ((n : Int) - (P : Int)) = (n : Int) - (P : Int) := IntWalk.i64_in _ (by omega)
      repeat (first | (refine wpC_quiet (v := ?_) rfl (by rfl) ?_ ?_; rotate_left; (· (intro w' hw'; go_simp; try with_reducible rfl)); simp only [Act.put, List.setIfInBounds_toArray, List.set_cons_zero, List.set_cons_succ]) | (refine wpC_val (v := ?_) (RBel.refl_) rfl (by rfl) ?_ ?_; rotate_left; (· (go_simp; try with_reducible rfl)); simp only [Act.put, List.setIfInBounds_toArray, List.set_cons_zero, List.set_cons_succ]) | (refine wpC_skip rfl (by rfl) ?_; simp only [Act.put, List.setIfInBounds_toArray, List.set_cons_zero, List.set_cons_succ]) | (refine wpC_skip' (RBel.refl_) rfl (by rfl) ?_; simp only [Act.put, List.setIfInBounds_toArray, List.set_cons_zero, List.set_cons_succ]))
      refine wpC_nil ?_
      clear c0 c1 hcw w1s d0 d1 d2
      have hne : p ≠ N := by omega
      go_upto_region 4 with (first
        | (refine wpl_store_new rfl _ _ _ rfl 29 _ (B8 zero32) rfl rfl rfl (info_hash rfl) zero32_one ?_; intro w2 bh h2))
      have hc2 := hcd.keep (h2.block p hcd.lt)
      have e2 := hc2.c2
      have sw2 := swd.to h2
      have bN2 := bd.to h2
      have hb2 := hbd.trans (h2.mono (by have := bd.lt; omega))
      have hpl := hcd.lt
      have hNl := bd.lt
      generalize wd.heap.size = pH at *
      clear hcd swd bd h2 hbd
      go_wp2_with fail
      clear e2
      go_loopw [4] (fun v wr => ∃ i : Nat, i ≤ 32 ∧ v = .int .i64 i ∧ Blk wr pH 29 (B8 (out.take i ++ List.replicate (32 - i) 0)) ∧ RBut (some pH) w2 wr) (fun v _ => 32 - (intOf v).toNat)
      case atStart => exact ⟨0, by omega, rfl, by rw [List.take_zero]; exact bh, RBut.refl_ _ _⟩
      case round =>
        clear bh
        obtain ⟨i, hi, rfl, bi, hbi⟩ := hrel
        have hci := hc2.keep (hbi.block p hc2.lt (fun h => by injection h; omega))
        have swi := sw2.but hbi (fun h => by injection h; have := HN.out; omega)
        by_cases hlt : i < 32
        · have t1 : (i : Int) < 32 := by omega
          obtain ⟨x, hx1, hx2⟩ := HGET.out i hlt
          obtain ⟨q, hq⟩ : ∃ q, q = P + i := ⟨_, rfl⟩
          rw [← hq] at hx2
          have wq : IntKind.i64.wrap ((P : Int) + (i : Int)) = (q : Int) := by rw [IntWalk.i64_in _ (by omega)]; omega
          have tq : (q : Int) < (n : Int) := by omega
          have cq : wr.drew.cell? ⟨bA, oA + q, none⟩ = some (.int .u8 (x.toNat : Int)) := swi.drew.cell (k := q) (by simp [B8, b8, hx2])
          have hcd := hci.drew
          have bd : Blk wr.drew pH 29 (B8 (out.take i ++ List.replicate (32 - i) 0)) := bi
          have hbd := RBut.trans_ _ _ _ _ hbi (RBut.of_below (Below.refl _ _).drew)
          have hlen : (out.take i).length = i := by rw [List.length_take, HOL.out]; omega
          have hset := fill8' (out.take i) (32 - i) i x hlen (by omega)
          rw [show out.take i ++ [x] = out.take (i + 1) from by rw [List.take_add_one, hx1]; rfl, show 32 - i - 1 = 32 - (i + 1) from by omega] at hset
          have HSET := Lib.hid hset
          clear hx1 hx2 hq hset bi hbi hci swi
          go_wp2_with fail
          refine wp_region_C [(0, true), (1, true), (2, true), (3, true), (4, true), (5, true), (6, true), (7, true), (8, true), (9, false), (10, false), (11, false), (12, false), (13, false), (14, false)] (RBut (some pH)) (by kernel_rfl) (by kernel_rfl) (by kernel_rfl) (by decide) (RBut.refl_ _) (RBut.trans_ _) (by intro d v c a w h; cases d <;> exact h) ?_
          generalize wr.drew = wd at *
          have hcw : ∀ w', RBut (some pH) wd w' → RrC w' p (some ⟨bA, oA, none⟩) n c P 0 := fun w' hw' => hcd.keep (hw'.block p hcd.lt (fun h => by injection h; omega))
          have c0 := fun w' hw' => (hcw w' hw').c0
          have c1 := fun w' hw' => (hcw w' hw').c1
          have ce := bd.cell i
          rw [List.getElem?_eq_getElem (by rw [B8_len, List.length_append, List.length_replicate]; omega)] at ce
          have fe := bd.fz i
          have bs2 := bd.set_ i (.int .u8 (x.toNat : Int))
          rw [HSET.out] at bs2
          have hbs := RBut.trans_ _ _ _ _ hbd (RBut.setC wd pH i (.int .u8 (x.toNat : Int)))
          have BS := Lib.hid bs2
          have HBS := Lib.hid hbs
          clear bs2 hbs
          generalize (B8 (out.take i ++ List.replicate (32 - i) 0))[i]'_ = zz at ce
          repeat (first | (refine wpC_quiet (v := ?_) rfl (by rfl) ?_ ?_; rotate_left; (· (intro w' hw'; go_simp; try with_reducible rfl)); simp only [Act.put, List.setIfInBounds_toArray, List.set_cons_zero, List.set_cons_succ]) | (refine wpC_val (v := ?_) (RBut.refl_ _) rfl (by rfl) ?_ ?_; rotate_left; (· (go_simp; try with_reducible rfl)); simp only [Act.put, List.setIfInBounds_toArray, List.set_cons_zero, List.set_cons_succ]) | (refine wpC_skip rfl (by rfl) ?_; simp only [Act.put, List.setIfInBounds_toArray, List.set_cons_zero, List.set_cons_succ]) | (refine wpC_skip' (RBut.refl_ _) rfl (by rfl) ?_; simp only [Act.put, List.setIfInBounds_toArray, List.set_cons_zero, List.set_cons_succ]))
          (refine wpC_loud rfl (by rfl) ?_; intro K hK; go_simp)
          (refine hK.out _ _ (RBut.setC _ _ _ _) ?_; clear hK K; try simp only [Act.put, List.setIfInBounds_toArray, List.set_cons_zero, List.set_cons_succ])
          refine wpC_nil ?_
          clear ce fe c0 c1 hcw cq
          go_wp2_with fail
          go_roundw
          case rel => exact ⟨i + 1, by omega, by go_num, BS.out, HBS.out⟩
          case measure => simp [intOf]; omega
        · have t1 : ¬ (i : Int) < 32 := by omega
          obtain rfl : i = 32 := by omega
          have e32 : out.take 32 ++ List.replicate (32 - 32) 0 = out := by rw [List.take_of_length_le (Nat.le_of_eq HOL.out)]; simp
          rw [e32] at bi
          clear e32
          have c1 := hci.c1
          have f1 := hci.fz 1
          obtain ⟨P1, hP1⟩ : ∃ P1, P1 = P + 32 := ⟨_, rfl⟩
          have u1 : (P : Int) + 32 = (P1 : Int) := by omega
          have HP1 := Lib.hid hP1
          have hP1n : P1 ≤ n := by omega
          clear hP1
          have hcP := hci.set1 P1
          have swP := swi.but3 (RBut.setC wr p 1 (.int .i64 (P1 : Int))) (fun b _ hb h => away_ne hA b hb h)
          have bP := bi.but (RBut.setC wr p 1 (.int .i64 (P1 : Int))) (fun h => by injection h; omega)
          have bNP := (bN2.but hbi (fun h => by injection h; omega)).but (RBut.setC wr p 1 (.int .i64 (P1 : Int))) (fun h => by injection h; omega)
          have hbP := RBut.setC wr p 1 (.int .i64 (P1 : Int))
          go_upto_region 11 with fail
          clear c1 f1
          generalize wr.setCell ⟨p, 1, none⟩ (.int .i64 (P1 : Int)) = we at *
          go_wp2_with (first
            | (refine wpl_load_blk rfl _ _ rfl pH rfl 29 (B8 out) _ bP Try.underlying29 rfl (info_hash HOL.out) ?_)
            | (refine wpl_store_blk rfl _ _ _ rfl N 29 (B8 zero32) (B8 out) rfl rfl bNP (by rw [B8_len, B8_len, HOL.out]; rfl) (info_hash HOL.out) (B8_one _) ?_; intro w9 b9 hb9))
          rw [HST.out, ← HOUT.out]
          have hwN := HN.out
          have hfin : RBut (some p) w w9 :=
            ⟨hb9.os.trans (hbP.os.trans (hbi.os.trans hb2.os)), hb9.tape.trans (hbP.tape.trans (hbi.tape.trans hb2.tape)), hb9.output.trans (hbP.output.trans (hbi.output.trans hb2.output)),
              Nat.le_trans hb2.size (Nat.le_trans hbi.size (Nat.le_trans hbP.size hb9.size)), fun k hk hkp =>
              (hb9.block k (Nat.lt_of_lt_of_le hk (Nat.le_trans hb2.size (Nat.le_trans hbi.size hbP.size))) (fun h => by injection h; omega)).trans
                ((hbP.block k (Nat.lt_of_lt_of_le hk (Nat.le_trans hb2.size hbi.size)) hkp).trans
                  ((hbi.block k (Nat.lt_of_lt_of_le hk hb2.size) (fun h => by injection h; omega)).trans (hb2.block k (by omega))))⟩
          exact bodyPost_ret (v := hv out) (results_blk Try.results28 rfl b9 Try.underlying29 rfl (info_hash HOL.out)) rfl ⟨rfl, ⟨_, n, c, P1, bs, hcP.keep (hb9.block p hcP.lt (fun h => by injection h; omega)), hnc, hcm, swP.but3 hb9 (fun b hn hb h => by
            injection h with h
            have := HAW.out b hn hb
            omega), hAH, hP1n, fun _ => by rw [hXR.out, List.drop_drop, HP1.out]⟩, hfin⟩
  · have hst : stHash (rest, e) = (zero32, (rest, e)) := by simp [stHash, h0]
    have t0 : (e == 0) = false := by simpa using h0
    have t1 : (e != 0) = true := by simpa using h0
    have HST := Lib.hid hst
    clear hst
    go_enter Try.func28, Try.ntmps28
    go_wp2_with fail
    generalize w.alloc (.cells #[.int .u8 0, .int .u8 0, .int .u8 0, .int .u8 0, .int .u8 0, .int .u8 0, .int .u8 0, .int .u8 0, .int .u8 0, .int .u8 0, .int .u8 0, .int .u8 0, .int .u8 0, .int .u8 0, .int .u8 0, .int .u8 0, .int .u8 0, .int .u8 0, .int .u8 0, .int .u8 0, .int .u8 0, .int .u8 0, .int .u8 0, .int .u8 0, .int .u8 0, .int .u8 0, .int .u8 0, .int .u8 0, .int .u8 0, .int .u8 0, .int .u8 0, .int .u8 0] 29) = W at *
    generalize hN : w.heap.size = N at *
    have HN := Lib.hid hN
    clear hN
    refine wp_region_C [(0, false), (1, false), (2, false), (3, false), (4, false), (5, false), (6, true), (7, true), (8, true), (9, true), (10, true), (11, false), (12, false), (13, false), (14, false), (15, false), (16, false), (17, false)] RBel (by kernel_rfl) (by kernel_rfl) (by kernel_rfl) (by decide) RBel.refl_ RBel.trans_ (by intro d v c a w h; cases d <;> exact h) ?_
    have hcd := hcW.drew
    have swd := hsW.drew
    have bd : Blk W.drew N 29 (B8 zero32) := bN
    have hbd : Below N w W.drew := hb0.drew
    clear hcW hsW bN hb0
    generalize W.drew = wd at *
    have d2 := hcd.c2
    repeat (first | (refine wpC_quiet (v := ?_) rfl (by rfl) ?_ ?_; rotate_left; (· (intro w' hw'; go_simp; try with_reducible rfl)); simp only [Act.put, List.setIfInBounds_toArray, List.set_cons_zero, List.set_cons_succ]) | (refine wpC_val (v := ?_) (RBel.refl_) rfl (by rfl) ?_ ?_; rotate_left; (· (go_simp; try with_reducible rfl)); simp only [Act.put, List.setIfInBounds_toArray, List.set_cons_zero, List.set_cons_succ]) | (refine wpC_skip rfl (by rfl) ?_; simp only [Act.put, List.setIfInBounds_toArray, List.set_cons_zero, List.set_cons_succ]) | (refine wpC_skip' (RBel.refl_) rfl (by rfl) ?_; simp only [Act.put, List.setIfInBounds_toArray, List.set_cons_zero, List.set_cons_succ]))
    refine wpC_nil ?_
    clear d2
    go_upto_region 4 with (first
      | (refine wpl_store_new rfl _ _ _ rfl 29 _ (B8 zero32) rfl rfl rfl (info_hash rfl) zero32_one ?_; intro w2 bh h2))
    have hc2 := hcd.keep (h2.block p hcd.lt)
    have e2 := hc2.c2
    have sw2 := swd.to h2
    have bN2 := bd.to h2
    go_wp2_with (first
      | (refine wpl_load_blk rfl _ _ rfl wd.heap.size rfl 29 (B8 zero32) _ bh Try.underlying29 rfl (info_hash rfl) ?_)
      | (refine wpl_store_blk rfl _ _ _ rfl N 29 (B8 zero32) (B8 zero32) rfl rfl bN2 rfl (info_hash rfl) zero32_one ?_; intro w3 b3 h3))
    rw [HST.out]
    have hne : p ≠ N := by omega
    have hfin : RBut (some p) w w3 := by
      have g1 : Below N w w2 := hbd.trans (h2.mono (by have := bd.lt; omega))
      exact ⟨h3.os.trans g1.os, h3.tape.trans g1.tape, h3.output.trans g1.output, Nat.le_trans g1.size h3.size, fun k hk _ => (h3.block k (Nat.lt_of_lt_of_le hk g1.size) (fun h => by injection h; have := HN.out; omega)).trans (g1.block k (by have := HN.out; omega))⟩
    exact bodyPost_ret (v := hv zero32) (results_blk Try.results28 rfl b3 Try.underlying29 rfl (info_hash rfl)) rfl ⟨rfl, Rr.err (hc2.keep (h3.block p hc2.lt (fun h => by injection h; omega))) hnc hcm (sw2.but3 h3 (fun b hn hb h => by
      injection h with h
      have := HAW.out b hn hb
      have := HN.out
      omega)) hAH hP h0, hfin⟩
end Go.Proofs.Ytoecbgdkbncfbaa
