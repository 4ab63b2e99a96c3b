/- Walks: the one sum of sums (trace.commit, Commit, and the document's Commit). -/
import Derived.Test.YtakebmpnbdlcoaaTraceH
import Derived.Test.YtakebmpnbdlcoaaRefTwo
import Derived.Test.YtakebmpnbdlcoaaTwo
import Derived.Test.YtakebmpnbdlcoaaEqS
import Derived.Test.YtakebmpnbdlcoaaHashes
set_option linter.unusedSimpArgs false
set_option linter.unusedVariables false
namespace Go.Proofs.Ytakebmpnbdlcoaa
open Go.RowKit
set_option maxRecDepth 100000
theorem built_zeroT : Try.prog.built 27 [] = some (B8 zero32).toArray := by kernel_rfl
theorem H8_take : ∀ (k : Nat) (hs : List (List UInt8)), (∀ x ∈ hs, x.length = 32) → H8 (hs.take k) = (H8 hs).take (k * 32)
  | 0, hs, h => by simp [H8]
  | k + 1, [], h => by simp [H8]
  | k + 1, a :: hs, h => by
    have ih := H8_take k hs (fun x hx => h x (by simp [hx]))
    have ha : (B8 a).length = 32 := by rw [B8_len]; exact h a (by simp)
    simp only [H8, List.take_succ_cons, List.flatMap_cons] at ih ⊢
    rw [ih, List.take_append, ha, List.take_of_length_le (l := B8 a) (by rw [ha]; omega), show (k + 1) * 32 - 32 = k * 32 from by omega]
theorem H8_drop : ∀ (k : Nat) (hs : List (List UInt8)), (∀ x ∈ hs, x.length = 32) → H8 (hs.drop k) = (H8 hs).drop (k * 32)
  | 0, hs, h => by simp [H8]
  | k + 1, [], h => by simp [H8]
  | k + 1, a :: hs, h => by
    have ih := H8_drop k hs (fun x hx => h x (by simp [hx]))
    have ha : (B8 a).length = 32 := by rw [B8_len]; exact h a (by simp)
    simp only [H8, List.drop_succ_cons, List.flatMap_cons] at ih ⊢
    rw [ih, List.drop_append, ha, show (B8 a).drop ((k + 1) * 32) = [] from List.drop_eq_nil_of_le (by rw [ha]; omega), show (k + 1) * 32 - 32 = k * 32 from by omega]
    simp
theorem Sl.front32 {w : World} {A : Option Addr} {n k : Nat} {hs : List (List UInt8)} (h : Sl w 32 A n (H8 hs)) (hl : ∀ x ∈ hs, x.length = 32) (hk : k ≤ n) : Sl w 32 A k (H8 (hs.take k)) := by
  have hlen := h.len
  refine ⟨by rw [H8_take k hs hl, List.length_take, hlen]; omega, fun h0 => ?_⟩
  obtain ⟨b, o, e, hb, hc⟩ := h.cells (by omega)
  refine ⟨b, o, e, hb, fun j u hu => hc j u ?_⟩
  rw [H8_take k hs hl, List.getElem?_take] at hu
  split at hu
  · exact hu
  · cases hu
theorem Sl.back32 {w : World} {b o n k : Nat} {hs : List (List UInt8)} (h : Sl w 32 (some ⟨b, o, none⟩) n (H8 hs)) (hl : ∀ x ∈ hs, x.length = 32) (hk : k ≤ n) : Sl w 32 (some ⟨b, o + k * 32, none⟩) (n - k) (H8 (hs.drop k)) := by
  have hlen := h.len
  refine ⟨by rw [H8_drop k hs hl, List.length_drop, hlen]; omega, fun h0 => ?_⟩
  obtain ⟨b', o', e, hb, hc⟩ := h.cells (by omega)
  simp only [Option.some.injEq, Addr.mk.injEq, and_true] at e
  obtain ⟨rfl, rfl⟩ := e
  refine ⟨b, o + k * 32, rfl, hb, fun j u hu => ?_⟩
  rw [H8_drop k hs hl, List.getElem?_drop] at hu
  rw [Nat.add_assoc]
  exact hc (k * 32 + j) u hu
theorem H8_range : ∀ (hs : List (List UInt8)) (_ : ∀ h ∈ hs, h.length = 32) (i : Nat) (h : List UInt8) (_ : hs[i]? = some h) (j : Nat) (v : Value) (_ : (B8 h)[j]? = some v), (H8 hs)[i * 32 + j]? = some v
  | [], _, i, h, hi, j, v, hv => by simp at hi
  | a :: hs, hl, 0, h, hi, j, v, hv => by
    simp at hi
    subst hi
    have hj : j < (B8 a).length := (List.getElem?_eq_some_iff.1 hv).1
    rw [H8, List.flatMap_cons, Nat.zero_mul, Nat.zero_add, List.getElem?_append_left hj]
    exact hv
  | a :: hs, hl, i + 1, h, hi, j, v, hv => by
    have ih := H8_range hs (fun h hh => hl h (by simp [hh])) i h (by simpa using hi) j v hv
    have ha : (B8 a).length = 32 := by rw [B8_len]; exact hl a (by simp)
    rw [H8, List.flatMap_cons, List.getElem?_append_right (by omega), ha, show (i + 1) * 32 + j - 32 = i * 32 + j from by omega]
    exact ih
theorem Sl.range32 {w : World} {b o n : Nat} {hs : List (List UInt8)} (h : Sl w 32 (some ⟨b, o, none⟩) n (H8 hs)) (hl : ∀ h ∈ hs, h.length = 32) (i : Nat) (x : List UInt8) (hi : hs[i]? = some x) : w.rangeAt b (o + i * 32) (B8 x) := fun j v hv => by
  rw [Nat.add_assoc]
  exact h.cell (H8_range hs hl i x hi j v hv)
theorem len32_take {hs : List (List UInt8)} (hl : ∀ x ∈ hs, x.length = 32) (k : Nat) : ∀ x ∈ hs.take k, x.length = 32 := fun x hx => hl x (List.mem_of_mem_take hx)
theorem len32_drop {hs : List (List UInt8)} (hl : ∀ x ∈ hs, x.length = 32) (k : Nat) : ∀ x ∈ hs.drop k, x.length = 32 := fun x hx => hl x (List.mem_of_mem_drop hx)

set_option maxRecDepth 100000 in
set_option maxHeartbeats 2000000 in
theorem commit_any (m : Nat) : ∀ (n : Nat) (A : Option Addr) (c : Nat) (hs : List (List UInt8)) (w : World), n ≤ m → n ≤ c → c ≤ maxLen → n ≤ 1073741824 → (∀ x ∈ hs, x.length = 32) → hs.length = n → Sl w 32 A n (H8 hs) →
    Calls Try.prog 52 #[.slice A n c] w fun e w' => e = .returned (hv (commitS hs)) ∧ Below w.heap.size w w' := by
  induction m with
  | zero =>
    intro n A c hs w hm hnc hc hn hl hlen sl
    obtain rfl : n = 0 := by omega
    obtain rfl : hs = [] := List.eq_nil_of_length_eq_zero hlen
    rw [commitS_nil]
    obtain ⟨W, HW, hbw, bz⟩ : ∃ W, Hid (W = w.alloc (.cells #[.int .u8 0, .int .u8 0, .int .u8 0, .int .u8 0, .int .u8 0, .int .u8 0, .int .u8 0, .int .u8 0, .int .u8 0, .int .u8 0, .int .u8 0, .int .u8 0, .int .u8 0, .int .u8 0, .int .u8 0, .int .u8 0, .int .u8 0, .int .u8 0, .int .u8 0, .int .u8 0, .int .u8 0, .int .u8 0, .int .u8 0, .int .u8 0, .int .u8 0, .int .u8 0, .int .u8 0, .int .u8 0, .int .u8 0, .int .u8 0, .int .u8 0, .int .u8 0] 27)) ∧ Below w.heap.size w W ∧ Blk W w.heap.size 27 (B8 zero32) := ⟨_, rfl, (Below.refl _ _).alloc (Nat.le_refl _) _, Blk.new w #[.int .u8 0, .int .u8 0, .int .u8 0, .int .u8 0, .int .u8 0, .int .u8 0, .int .u8 0, .int .u8 0, .int .u8 0, .int .u8 0, .int .u8 0, .int .u8 0, .int .u8 0, .int .u8 0, .int .u8 0, .int .u8 0, .int .u8 0, .int .u8 0, .int .u8 0, .int .u8 0, .int .u8 0, .int .u8 0, .int .u8 0, .int .u8 0, .int .u8 0, .int .u8 0, .int .u8 0, .int .u8 0, .int .u8 0, .int .u8 0, .int .u8 0, .int .u8 0] 27⟩
    go_enter Try.func52, Try.ntmps52
    go_upto_region 1 with fail
    refine wp_at HW.out ?_
    clear HW
    go_wp2_with (first
        | (refine wpl_build (by rfl) _ _ rfl _ built_zeroT ?_)
        | (refine wpl_store_fld (by rfl) _ _ _ rfl w.heap.size 0 _ _ (B8 zero32) rfl _ rfl rfl bz (by decide) (info_hash rfl) (B8_one _) ?_
           intro w1 bz1 bu1
           rw [put_all _ _ rfl] at bz1))
    exact bodyPost_ret (v := hv zero32) (results_blk Try.results52 rfl bz1 Try.underlying27 rfl (info_hash rfl)) rfl ⟨rfl, hbw.trans (below_but bu1 (Nat.le_refl _) hbw.size)⟩
  | succ m ih =>
    intro n A c hs w hm hnc hc hn hl hlen sl
    by_cases hle : n ≤ m
    · exact ih n A c hs w hle hnc hc hn hl hlen sl
    obtain ⟨W, HW, hbw, bz⟩ : ∃ W, Hid (W = w.alloc (.cells #[.int .u8 0, .int .u8 0, .int .u8 0, .int .u8 0, .int .u8 0, .int .u8 0, .int .u8 0, .int .u8 0, .int .u8 0, .int .u8 0, .int .u8 0, .int .u8 0, .int .u8 0, .int .u8 0, .int .u8 0, .int .u8 0, .int .u8 0, .int .u8 0, .int .u8 0, .int .u8 0, .int .u8 0, .int .u8 0, .int .u8 0, .int .u8 0, .int .u8 0, .int .u8 0, .int .u8 0, .int .u8 0, .int .u8 0, .int .u8 0, .int .u8 0, .int .u8 0] 27)) ∧ Below w.heap.size w W ∧ Blk W w.heap.size 27 (B8 zero32) := ⟨_, rfl, (Below.refl _ _).alloc (Nat.le_refl _) _, Blk.new w #[.int .u8 0, .int .u8 0, .int .u8 0, .int .u8 0, .int .u8 0, .int .u8 0, .int .u8 0, .int .u8 0, .int .u8 0, .int .u8 0, .int .u8 0, .int .u8 0, .int .u8 0, .int .u8 0, .int .u8 0, .int .u8 0, .int .u8 0, .int .u8 0, .int .u8 0, .int .u8 0, .int .u8 0, .int .u8 0, .int .u8 0, .int .u8 0, .int .u8 0, .int .u8 0, .int .u8 0, .int .u8 0, .int .u8 0, .int .u8 0, .int .u8 0, .int .u8 0] 27⟩
    have slW := sl.to hbw
    have HLN := Lib.hid hlen
    have HL := Lib.hid hl
    have HC := Lib.hid hc
    clear hlen hl hc sl
    have HM : Hid (n = m + 1) := (show _ = _ by omega)
    by_cases h1 : n = 1
    · subst h1
      obtain ⟨x, rfl⟩ : ∃ x, hs = [x] := List.length_eq_one_iff.1 HLN.out
      have hx : x.length = 32 := HL.out x (by simp)
      have HX := Lib.hid hx
      rw [commitS_one]
      obtain ⟨b, o, rfl, hb⟩ := slW.some_ (by omega)
      have rg : W.rangeAt b o (B8 x) := fun j v hv => slW.cell (by simpa [H8] using hv)
      clear hx HL HLN HM ih hm hle
      go_enter Try.func52, Try.ntmps52
      go_upto_region 1 with fail
      refine wp_at HW.out ?_
      clear HW
      go_wp2_with (first
        | (refine wpl_load_fld (by rfl) _ _ rfl b o rfl (B8 x) _ rg Try.underlying27 rfl (info_hash HX.out) ?_)
        | (refine wpl_store_fld (by rfl) _ _ _ rfl w.heap.size 0 _ _ (B8 x) rfl _ rfl rfl bz (by rw [B8_len, HX.out]; decide) (info_hash HX.out) (B8_one _) ?_
           intro w1 bz1 bu1
           rw [put_all _ _ (by rw [B8_len, HX.out]; rfl)] at bz1))
      exact bodyPost_ret (v := hv x) (results_blk Try.results52 rfl bz1 Try.underlying27 rfl (info_hash HX.out)) rfl ⟨rfl, hbw.trans (below_but bu1 (Nat.le_refl _) hbw.size)⟩
    · have hcs := commitS_step hs (by rw [HLN.out]; omega)
      rw [HLN.out] at hcs
      have hs1 := split_lt (n := n) (by omega)
      have hs2 := split_pos n
      have HCS := Lib.hid hcs
      clear hcs
      obtain ⟨b, o, rfl, hb⟩ := slW.some_ (by omega)
      go_enter Try.func52, Try.ntmps52
      go_upto_region 1 with fail
      refine wp_at HW.out ?_
      clear HW
      have t0 : ¬ ((n : Int) = 0) := by omega
      have t1 : ¬ ((n : Int) = 1) := by omega
      go_wp2_with fail
      refine (half_any n W (by omega) (by omega)).mono ?_
      rintro e w0 ⟨rfl, rfl⟩
      have hkm : splitN n ≤ m := by have := HM.out; omega
      have hkm2 : n - splitN n ≤ m := by have := HM.out; omega
      generalize hk : splitN n = k at *
      have HK := Lib.hid hk
      clear hk
      have hzl := bz.lt
      have hc63 : c ≤ 9223372036854775807 := by have := HC.out; simp only [maxLen] at this; omega
      have ck : ¬ c = k := by omega
      have kc : (k : Int) ≤ (c : Int) := by omega
      have kn : (k : Int) ≤ (n : Int) := by omega
      generalize hN : w.heap.size = N at *
      have HN := Lib.hid hN
      clear hN
      go_upto_region 7 with fail
      refine wp_region_C [(0, true), (1, true), (2, true), (4, true), (5, true), (6, true), (3, false), (7, false), (8, false), (9, false)] (RBut (some N)) (by kernel_rfl) (by kernel_rfl) (by kernel_rfl) (by decide) (RBut.refl_ _) (RBut.trans_ _) (by intro d v c a w h; cases d <;> exact h) ?_
      have bz' : Blk W.drew N 27 (B8 zero32) := bz
      have hbw' : Below N w W.drew := hbw.drew
      have slD := slW.drew
      clear bz hbw slW hzl
      generalize W.drew = V at *
      repeat (first | (refine wpC_quiet (v := ?_) rfl (by rfl) ?_ ?_; rotate_left; (· (intro w' hw'; go_simp; try with_reducible rfl)); simp only [Act.put, List.setIfInBounds_toArray, List.set_cons_zero, List.set_cons_succ]) | (refine wpC_val (v := ?_) (RBut.refl_ _) rfl (by rfl) ?_ ?_; rotate_left; (· (go_simp; try with_reducible rfl)); simp only [Act.put, List.setIfInBounds_toArray, List.set_cons_zero, List.set_cons_succ]) | (refine wpC_skip rfl (by rfl) ?_; simp only [Act.put, List.setIfInBounds_toArray, List.set_cons_zero, List.set_cons_succ]) | (refine wpC_skip' (RBut.refl_ _) rfl (by rfl) ?_; simp only [Act.put, List.setIfInBounds_toArray, List.set_cons_zero, List.set_cons_succ]))
      (refine wpC_loud rfl (by rfl) ?_; intro K hK; go_simp)
      refine (ih k _ c (hs.take k) V hkm (by omega) HC.out (by omega) (len32_take HL.out k) (by rw [List.length_take, HLN.out]; omega) (slD.front32 HL.out (by omega))).mono ?_
      rintro e w3 ⟨rfl, h3⟩
      unfold hv
      (refine hK.out _ _ (RBut.of_below h3) ?_; clear hK K; try simp only [Act.put, List.setIfInBounds_toArray, List.set_cons_zero, List.set_cons_succ])
      have bz3 := bz'.to h3
      have hq3 : N < w3.heap.size := bz3.lt
      have f3 := hbw'.trans (h3.mono (Nat.le_of_lt bz'.lt))
      have sl3 := slD.to h3
      clear bz' hbw' slD h3
      (refine wpC_loud rfl (by rfl) ?_; intro K hK; go_simp)
      refine (ih (n - k) _ (c - k) (hs.drop k) w3 hkm2 (by omega) (by have := HC.out; omega) (by omega) (len32_drop HL.out k) (by rw [List.length_drop, HLN.out]) (sl3.back32 HL.out (by omega))).mono ?_
      rintro e w4 ⟨rfl, h4⟩
      unfold hv
      (refine hK.out _ _ (RBut.of_below h4) ?_; clear hK K; try simp only [Act.put, List.setIfInBounds_toArray, List.set_cons_zero, List.set_cons_succ])
      have bz4 := bz3.to h4
      have hq4 : N < w4.heap.size := bz4.lt
      have f4 := f3.trans (h4.mono (Nat.le_of_lt bz3.lt))
      clear bz3 f3 sl3 h4 hq3
      have L1 := commitS_len (hs.take k) (len32_take HL.out k)
      have L2 := commitS_len (hs.drop k) (len32_drop HL.out k)
      (refine wpC_loud rfl (by rfl) ?_; intro K hK; go_simp)
      refine (two_any _ _ L1 L2 w4).mono ?_
      rintro e w5 ⟨rfl, h5⟩
      rw [← HCS.out]
      have hsl := commitS_len hs HL.out
      obtain ⟨sm, hsm⟩ : ∃ sm, sm = commitS hs := ⟨_, rfl⟩
      rw [← hsm] at hsl ⊢
      have HSL := Lib.hid hsl
      have HT := Lib.hid hsm.symm
      clear hsl hsm
      unfold hv
      clear L1 L2
      (refine hK.out _ _ (RBut.of_below h5) ?_; clear hK K; try simp only [Act.put, List.setIfInBounds_toArray, List.set_cons_zero, List.set_cons_succ])
      have bz5 := bz4.to h5
      have hq5 : N < w5.heap.size := bz5.lt
      have f5 := f4.trans (h5.mono (Nat.le_of_lt bz4.lt))
      refine wpC_store_blk rfl (by rfl) _ _ _ rfl N 27 (B8 zero32) (B8 sm) rfl rfl bz5 (by rw [B8_len, B8_len, HSL.out]; rfl) (info_hash HSL.out) (B8_one _) (fun w' h => h) ?_
      intro w9 b9 hb9
      simp only [Act.put, List.setIfInBounds_toArray, List.set_cons_zero, List.set_cons_succ]
      refine wpC_nil ?_
      go_wp2_with fail
      exact bodyPost_ret (v := hv sm) (results_blk Try.results52 rfl b9 Try.underlying27 rfl (info_hash HSL.out)) rfl ⟨by rw [HT.out], by
        rw [HN.out]
        exact f5.trans (below_but hb9 (by omega) (by omega))⟩

set_option maxRecDepth 100000 in
set_option maxHeartbeats 2000000 in
theorem refCommit_any (m : Nat) : ∀ (n : Nat) (A : Option Addr) (c : Nat) (hs : List (List UInt8)) (w : World), n ≤ m → n ≤ c → c ≤ maxLen → n ≤ 1073741824 → (∀ x ∈ hs, x.length = 32) → hs.length = n → Sl w 32 A n (H8 hs) →
    Calls Try.prog 35 #[.slice A n c] w fun e w' => e = .returned (hv (commitS hs)) ∧ Below w.heap.size w w' := by
  induction m with
  | zero =>
    intro n A c hs w hm hnc hc hn hl hlen sl
    obtain rfl : n = 0 := by omega
    obtain rfl : hs = [] := List.eq_nil_of_length_eq_zero hlen
    rw [commitS_nil]
    obtain ⟨W, HW, hbw, bz⟩ : ∃ W, Hid (W = w.alloc (.cells #[.int .u8 0, .int .u8 0, .int .u8 0, .int .u8 0, .int .u8 0, .int .u8 0, .int .u8 0, .int .u8 0, .int .u8 0, .int .u8 0, .int .u8 0, .int .u8 0, .int .u8 0, .int .u8 0, .int .u8 0, .int .u8 0, .int .u8 0, .int .u8 0, .int .u8 0, .int .u8 0, .int .u8 0, .int .u8 0, .int .u8 0, .int .u8 0, .int .u8 0, .int .u8 0, .int .u8 0, .int .u8 0, .int .u8 0, .int .u8 0, .int .u8 0, .int .u8 0] 27)) ∧ Below w.heap.size w W ∧ Blk W w.heap.size 27 (B8 zero32) := ⟨_, rfl, (Below.refl _ _).alloc (Nat.le_refl _) _, Blk.new w #[.int .u8 0, .int .u8 0, .int .u8 0, .int .u8 0, .int .u8 0, .int .u8 0, .int .u8 0, .int .u8 0, .int .u8 0, .int .u8 0, .int .u8 0, .int .u8 0, .int .u8 0, .int .u8 0, .int .u8 0, .int .u8 0, .int .u8 0, .int .u8 0, .int .u8 0, .int .u8 0, .int .u8 0, .int .u8 0, .int .u8 0, .int .u8 0, .int .u8 0, .int .u8 0, .int .u8 0, .int .u8 0, .int .u8 0, .int .u8 0, .int .u8 0, .int .u8 0] 27⟩
    go_enter Try.func35, Try.ntmps35
    go_upto_region 1 with fail
    refine wp_at HW.out ?_
    clear HW
    go_wp2_with (first
        | (refine wpl_build (by rfl) _ _ rfl _ built_zeroT ?_)
        | (refine wpl_store_fld (by rfl) _ _ _ rfl w.heap.size 0 _ _ (B8 zero32) rfl _ rfl rfl bz (by decide) (info_hash rfl) (B8_one _) ?_
           intro w1 bz1 bu1
           rw [put_all _ _ rfl] at bz1))
    exact bodyPost_ret (v := hv zero32) (results_blk Try.results35 rfl bz1 Try.underlying27 rfl (info_hash rfl)) rfl ⟨rfl, hbw.trans (below_but bu1 (Nat.le_refl _) hbw.size)⟩
  | succ m ih =>
    intro n A c hs w hm hnc hc hn hl hlen sl
    by_cases hle : n ≤ m
    · exact ih n A c hs w hle hnc hc hn hl hlen sl
    obtain ⟨W, HW, hbw, bz⟩ : ∃ W, Hid (W = w.alloc (.cells #[.int .u8 0, .int .u8 0, .int .u8 0, .int .u8 0, .int .u8 0, .int .u8 0, .int .u8 0, .int .u8 0, .int .u8 0, .int .u8 0, .int .u8 0, .int .u8 0, .int .u8 0, .int .u8 0, .int .u8 0, .int .u8 0, .int .u8 0, .int .u8 0, .int .u8 0, .int .u8 0, .int .u8 0, .int .u8 0, .int .u8 0, .int .u8 0, .int .u8 0, .int .u8 0, .int .u8 0, .int .u8 0, .int .u8 0, .int .u8 0, .int .u8 0, .int .u8 0] 27)) ∧ Below w.heap.size w W ∧ Blk W w.heap.size 27 (B8 zero32) := ⟨_, rfl, (Below.refl _ _).alloc (Nat.le_refl _) _, Blk.new w #[.int .u8 0, .int .u8 0, .int .u8 0, .int .u8 0, .int .u8 0, .int .u8 0, .int .u8 0, .int .u8 0, .int .u8 0, .int .u8 0, .int .u8 0, .int .u8 0, .int .u8 0, .int .u8 0, .int .u8 0, .int .u8 0, .int .u8 0, .int .u8 0, .int .u8 0, .int .u8 0, .int .u8 0, .int .u8 0, .int .u8 0, .int .u8 0, .int .u8 0, .int .u8 0, .int .u8 0, .int .u8 0, .int .u8 0, .int .u8 0, .int .u8 0, .int .u8 0] 27⟩
    have slW := sl.to hbw
    have HLN := Lib.hid hlen
    have HL := Lib.hid hl
    have HC := Lib.hid hc
    clear hlen hl hc sl
    have HM : Hid (n = m + 1) := (show _ = _ by omega)
    by_cases h1 : n = 1
    · subst h1
      obtain ⟨x, rfl⟩ : ∃ x, hs = [x] := List.length_eq_one_iff.1 HLN.out
      have hx : x.length = 32 := HL.out x (by simp)
      have HX := Lib.hid hx
      rw [commitS_one]
      obtain ⟨b, o, rfl, hb⟩ := slW.some_ (by omega)
      have rg : W.rangeAt b o (B8 x) := fun j v hv => slW.cell (by simpa [H8] using hv)
      clear hx HL HLN HM ih hm hle
      go_enter Try.func35, Try.ntmps35
      go_upto_region 1 with fail
      refine wp_at HW.out ?_
      clear HW
      go_wp2_with (first
        | (refine wpl_load_fld (by rfl) _ _ rfl b o rfl (B8 x) _ rg Try.underlying27 rfl (info_hash HX.out) ?_)
        | (refine wpl_store_fld (by rfl) _ _ _ rfl w.heap.size 0 _ _ (B8 x) rfl _ rfl rfl bz (by rw [B8_len, HX.out]; decide) (info_hash HX.out) (B8_one _) ?_
           intro w1 bz1 bu1
           rw [put_all _ _ (by rw [B8_len, HX.out]; rfl)] at bz1))
      exact bodyPost_ret (v := hv x) (results_blk Try.results35 rfl bz1 Try.underlying27 rfl (info_hash HX.out)) rfl ⟨rfl, hbw.trans (below_but bu1 (Nat.le_refl _) hbw.size)⟩
    · have hcs := commitS_step hs (by rw [HLN.out]; omega)
      rw [HLN.out] at hcs
      have hs1 := split_lt (n := n) (by omega)
      have hs2 := split_pos n
      have HCS := Lib.hid hcs
      clear hcs
      obtain ⟨b, o, rfl, hb⟩ := slW.some_ (by omega)
      go_enter Try.func35, Try.ntmps35
      go_upto_region 1 with fail
      refine wp_at HW.out ?_
      clear HW
      have t0 : ¬ ((n : Int) = 0) := by omega
      have t1 : ¬ ((n : Int) = 1) := by omega
      go_wp2_with fail
      refine (refSplit_any n W (by omega) (by omega)).mono ?_
      rintro e w0 ⟨rfl, rfl⟩
      have hkm : splitN n ≤ m := by have := HM.out; omega
      have hkm2 : n - splitN n ≤ m := by have := HM.out; omega
      generalize hk : splitN n = k at *
      have HK := Lib.hid hk
      clear hk
      have hzl := bz.lt
      have hc63 : c ≤ 9223372036854775807 := by have := HC.out; simp only [maxLen] at this; omega
      have ck : ¬ c = k := by omega
      have kc : (k : Int) ≤ (c : Int) := by omega
      have kn : (k : Int) ≤ (n : Int) := by omega
      generalize hN : w.heap.size = N at *
      have HN := Lib.hid hN
      clear hN
      go_upto_region 7 with fail
      refine wp_region_C [(0, true), (1, true), (2, true), (4, true), (5, true), (6, true), (3, false), (7, false), (8, false), (9, false)] (RBut (some N)) (by kernel_rfl) (by kernel_rfl) (by kernel_rfl) (by decide) (RBut.refl_ _) (RBut.trans_ _) (by intro d v c a w h; cases d <;> exact h) ?_
      have bz' : Blk W.drew N 27 (B8 zero32) := bz
      have hbw' : Below N w W.drew := hbw.drew
      have slD := slW.drew
      clear bz hbw slW hzl
      generalize W.drew = V at *
      repeat (first | (refine wpC_quiet (v := ?_) rfl (by rfl) ?_ ?_; rotate_left; (· (intro w' hw'; go_simp; try with_reducible rfl)); simp only [Act.put, List.setIfInBounds_toArray, List.set_cons_zero, List.set_cons_succ]) | (refine wpC_val (v := ?_) (RBut.refl_ _) rfl (by rfl) ?_ ?_; rotate_left; (· (go_simp; try with_reducible rfl)); simp only [Act.put, List.setIfInBounds_toArray, List.set_cons_zero, List.set_cons_succ]) | (refine wpC_skip rfl (by rfl) ?_; simp only [Act.put, List.setIfInBounds_toArray, List.set_cons_zero, List.set_cons_succ]) | (refine wpC_skip' (RBut.refl_ _) rfl (by rfl) ?_; simp only [Act.put, List.setIfInBounds_toArray, List.set_cons_zero, List.set_cons_succ]))
      (refine wpC_loud rfl (by rfl) ?_; intro K hK; go_simp)
      refine (ih k _ c (hs.take k) V hkm (by omega) HC.out (by omega) (len32_take HL.out k) (by rw [List.length_take, HLN.out]; omega) (slD.front32 HL.out (by omega))).mono ?_
      rintro e w3 ⟨rfl, h3⟩
      unfold hv
      (refine hK.out _ _ (RBut.of_below h3) ?_; clear hK K; try simp only [Act.put, List.setIfInBounds_toArray, List.set_cons_zero, List.set_cons_succ])
      have bz3 := bz'.to h3
      have hq3 : N < w3.heap.size := bz3.lt
      have f3 := hbw'.trans (h3.mono (Nat.le_of_lt bz'.lt))
      have sl3 := slD.to h3
      clear bz' hbw' slD h3
      (refine wpC_loud rfl (by rfl) ?_; intro K hK; go_simp)
      refine (ih (n - k) _ (c - k) (hs.drop k) w3 hkm2 (by omega) (by have := HC.out; omega) (by omega) (len32_drop HL.out k) (by rw [List.length_drop, HLN.out]) (sl3.back32 HL.out (by omega))).mono ?_
      rintro e w4 ⟨rfl, h4⟩
      unfold hv
      (refine hK.out _ _ (RBut.of_below h4) ?_; clear hK K; try simp only [Act.put, List.setIfInBounds_toArray, List.set_cons_zero, List.set_cons_succ])
      have bz4 := bz3.to h4
      have hq4 : N < w4.heap.size := bz4.lt
      have f4 := f3.trans (h4.mono (Nat.le_of_lt bz3.lt))
      clear bz3 f3 sl3 h4 hq3
      have L1 := commitS_len (hs.take k) (len32_take HL.out k)
      have L2 := commitS_len (hs.drop k) (len32_drop HL.out k)
      (refine wpC_loud rfl (by rfl) ?_; intro K hK; go_simp)
      refine (refTwo_any _ _ L1 L2 w4).mono ?_
      rintro e w5 ⟨rfl, h5⟩
      rw [← HCS.out]
      have hsl := commitS_len hs HL.out
      obtain ⟨sm, hsm⟩ : ∃ sm, sm = commitS hs := ⟨_, rfl⟩
      rw [← hsm] at hsl ⊢
      have HSL := Lib.hid hsl
      have HT := Lib.hid hsm.symm
      clear hsl hsm
      unfold hv
      clear L1 L2
      (refine hK.out _ _ (RBut.of_below h5) ?_; clear hK K; try simp only [Act.put, List.setIfInBounds_toArray, List.set_cons_zero, List.set_cons_succ])
      have bz5 := bz4.to h5
      have hq5 : N < w5.heap.size := bz5.lt
      have f5 := f4.trans (h5.mono (Nat.le_of_lt bz4.lt))
      refine wpC_store_blk rfl (by rfl) _ _ _ rfl N 27 (B8 zero32) (B8 sm) rfl rfl bz5 (by rw [B8_len, B8_len, HSL.out]; rfl) (info_hash HSL.out) (B8_one _) (fun w' h => h) ?_
      intro w9 b9 hb9
      simp only [Act.put, List.setIfInBounds_toArray, List.set_cons_zero, List.set_cons_succ]
      refine wpC_nil ?_
      go_wp2_with fail
      exact bodyPost_ret (v := hv sm) (results_blk Try.results35 rfl b9 Try.underlying27 rfl (info_hash HSL.out)) rfl ⟨by rw [HT.out], by
        rw [HN.out]
        exact f5.trans (below_but hb9 (by omega) (by omega))⟩
end Go.Proofs.Ytakebmpnbdlcoaa
