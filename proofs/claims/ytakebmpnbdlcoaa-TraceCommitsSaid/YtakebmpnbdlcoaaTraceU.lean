/- Walks: where a sum leads to by a path (the document's up). -/
import Derived.Test.YtakebmpnbdlcoaaTraceY
import Derived.Test.YtakebmpnbdlcoaaTraceR
set_option linter.unusedSimpArgs false
set_option linter.unusedVariables false

namespace Go.Proofs.Ytakebmpnbdlcoaa
open Go.RowKit
set_option maxRecDepth 100000
/-- hands back a sum, and whether there were as many sums as must be -/
def RUp (w : World) (ss : List Bool) (p : List (List UInt8)) (h : List UInt8) (en : Ending) (w' : World) : Prop :=
  ∃ x : List UInt8, en = .returned (.tuple #[hv x, .bool (decide (p.length = ss.length))]) ∧ x.length = 32 ∧ (p.length = ss.length → x = foldUp ss.reverse p h) ∧ Below w.heap.size w w'
set_option maxRecDepth 100000 in
set_option maxHeartbeats 8000000 in
theorem up_any (M : Nat) : ∀ (n i : Nat) (h : List UInt8) (A : Option Addr) (m c : Nat) (p : List (List UInt8)) (w : World), n ≤ M → 1 ≤ n → n ≤ 1073741824 → h.length = 32 → (∀ x ∈ p, x.length = 32) → p.length = m → m ≤ c → c ≤ maxLen → Sl w 32 A m (H8 p) → i < n →
    Calls Try.prog 58 #[.int .i64 (n : Int), .int .i64 (i : Int), hv h, .slice A m c] w (RUp w (sidesS n i) p h) := by
  induction M with
  | zero =>
    intro n i h A m c p w hm h1
    omega
  | succ M ih =>
    intro n i h A m c p w hm h1 hn hh hl hlen hmc hc sl hi
    by_cases hle : n ≤ M
    · exact ih n i h A m c p w hle h1 hn hh hl hlen hmc hc sl hi
    have HM : Hid (n = M + 1) := (show _ = _ by omega)
    unfold hv
    obtain ⟨W, HW, hbw, bh, bz⟩ : ∃ W, Hid (W = (w.alloc (.cells (B8 h).toArray 27)).alloc (.cells #[.int .u8 0, .int .u8 0, .int .u8 0, .int .u8 0, .int .u8 0, .int .u8 0, .int .u8 0, .int .u8 0, .int .u8 0, .int .u8 0, .int .u8 0, .int .u8 0, .int .u8 0, .int .u8 0, .int .u8 0, .int .u8 0, .int .u8 0, .int .u8 0, .int .u8 0, .int .u8 0, .int .u8 0, .int .u8 0, .int .u8 0, .int .u8 0, .int .u8 0, .int .u8 0, .int .u8 0, .int .u8 0, .int .u8 0, .int .u8 0, .int .u8 0, .int .u8 0] 27)) ∧ Below w.heap.size w W ∧ Blk W w.heap.size 27 (B8 h) ∧ Blk W (w.heap.size + 1) 27 (B8 zero32) := by
      refine ⟨_, rfl, ((Below.refl _ _).alloc (Nat.le_refl _) _).alloc (by simp) _, ?_, ?_⟩
      · exact (Blk.new w (B8 h).toArray 27).to ((Below.refl _ _).alloc (Nat.le_refl _) _)
      · have := Blk.new (w.alloc (.cells (B8 h).toArray 27)) #[.int .u8 0, .int .u8 0, .int .u8 0, .int .u8 0, .int .u8 0, .int .u8 0, .int .u8 0, .int .u8 0, .int .u8 0, .int .u8 0, .int .u8 0, .int .u8 0, .int .u8 0, .int .u8 0, .int .u8 0, .int .u8 0, .int .u8 0, .int .u8 0, .int .u8 0, .int .u8 0, .int .u8 0, .int .u8 0, .int .u8 0, .int .u8 0, .int .u8 0, .int .u8 0, .int .u8 0, .int .u8 0, .int .u8 0, .int .u8 0, .int .u8 0, .int .u8 0] 27
        rw [show (w.alloc (.cells (B8 h).toArray 27)).heap.size = w.heap.size + 1 from by simp] at this
        exact this
    have slW := sl.to hbw
    have HH := Lib.hid hh
    have HL := Lib.hid hl
    have HLN := Lib.hid hlen
    have HC := Lib.hid hc
    clear hh hl hlen hc sl hle hm
    go_enter Try.func58, Try.ntmps58
    go_upto_region 1 with fail
    refine wp_at HW.out ?_
    clear HW
    by_cases hn1 : n = 1
    · have t1 : (n : Int) = 1 := by omega
      have HS : Hid (sidesS n i = []) := sidesS_one i (by omega)
      have hcases : m = 0 ∨ m ≠ 0 := by omega
      rcases hcases with hm0 | hm0
      · have t2 : (m : Int) = 0 := by omega
        go_wp2_with (first
          | (refine wpl_load_fld (by rfl) _ _ rfl w.heap.size 0 rfl (B8 h) _ bh.range Try.underlying27 rfl (info_hash HH.out) ?_)
          | (refine wpl_store_fld (by rfl) _ _ _ rfl (w.heap.size + 1) 0 _ _ (B8 h) rfl _ rfl rfl bz (by rw [B8_len, HH.out]; exact Nat.le_refl _) (info_hash HH.out) (B8_one _) ?_
             intro w1 bz1 bu1
             simp only [Act.put]
             rw [put_all _ _ (by rw [B8_len, HH.out]; rfl)] at bz1))
        refine bodyPost_ret (v := .tuple #[.agg (B8 h).toArray, .bool true]) (results_blk2 Try.results58 rfl rfl bz1 Try.underlying27 rfl (info_hash HH.out)) rfl ⟨h, ?_, HH.out, ?_, hbw.trans (below_but bu1 (Nat.le_succ _) hbw.size)⟩
        · rw [HS.out, HLN.out, hm0]; rfl
        · intro _
          rw [HS.out]
          rfl
      · have t2 : ¬ (m : Int) = 0 := by omega
        go_wp2_with (first
          | (refine wpl_load_fld (by rfl) _ _ rfl w.heap.size 0 rfl (B8 h) _ bh.range Try.underlying27 rfl (info_hash HH.out) ?_)
          | (refine wpl_store_fld (by rfl) _ _ _ rfl (w.heap.size + 1) 0 _ _ (B8 h) rfl _ rfl rfl bz (by rw [B8_len, HH.out]; exact Nat.le_refl _) (info_hash HH.out) (B8_one _) ?_
             intro w1 bz1 bu1
             simp only [Act.put]
             rw [put_all _ _ (by rw [B8_len, HH.out]; rfl)] at bz1))
        refine bodyPost_ret (v := .tuple #[.agg (B8 h).toArray, .bool false]) (results_blk2 Try.results58 rfl (by simp [hm0]) bz1 Try.underlying27 rfl (info_hash HH.out)) rfl ⟨h, ?_, HH.out, ?_, hbw.trans (below_but bu1 (Nat.le_succ _) hbw.size)⟩
        · rw [HS.out, HLN.out, decide_eq_false (show ¬ m = ([] : List Bool).length from hm0)]; rfl
        · intro he
          rw [HS.out, HLN.out] at he
          exact absurd he hm0
    · have t1 : ¬ (n : Int) = 1 := by omega
      have h2 : 2 ≤ n := by omega
      have HSP := Lib.hid (sides_pos (i := i) h2)
      by_cases hm0 : m = 0
      · have t2 : (m : Int) = 0 := by omega
        go_wp2_with (first
          | (refine wpl_load_fld (by rfl) _ _ rfl w.heap.size 0 rfl (B8 h) _ bh.range Try.underlying27 rfl (info_hash HH.out) ?_)
          | (refine wpl_store_fld (by rfl) _ _ _ rfl (w.heap.size + 1) 0 _ _ (B8 h) rfl _ rfl rfl bz (by rw [B8_len, HH.out]; exact Nat.le_refl _) (info_hash HH.out) (B8_one _) ?_
             intro w1 bz1 bu1
             simp only [Act.put]
             rw [put_all _ _ (by rw [B8_len, HH.out]; rfl)] at bz1))
        refine bodyPost_ret (v := .tuple #[.agg (B8 h).toArray, .bool false]) (results_blk2 Try.results58 rfl rfl bz1 Try.underlying27 rfl (info_hash HH.out)) rfl ⟨h, ?_, HH.out, ?_, hbw.trans (below_but bu1 (Nat.le_succ _) hbw.size)⟩
        · rw [HLN.out, hm0, decide_eq_false (fun e => HSP.out e.symm)]; rfl
        · intro he
          rw [HLN.out, hm0] at he
          exact absurd he.symm HSP.out
      · have t2 : ¬ (m : Int) = 0 := by omega
        obtain ⟨q, l, rfl⟩ : ∃ q l, p = q ++ [l] := by
          rcases List.eq_nil_or_concat p with rfl | ⟨q, l, rfl⟩
          · exact absurd (by have := HLN.out; simpa using this.symm) hm0
          · exact ⟨q, l, by simp⟩
        have HQ : Hid (q.length = m - 1) := (show _ = _ by have := HLN.out; simp at this; omega)
        have HQL : Hid (∀ x ∈ q, x.length = 32) := (show ∀ x ∈ q, x.length = 32 from fun x hx => HL.out x (by simp [hx]))
        have HLL : Hid (l.length = 32) := (show _ = _ from HL.out l (by simp))
        have HGL : Hid ((q ++ [l])[m - 1]? = some l) := (show _ = _ by rw [← HQ.out]; simp)
        have hs1 := split_lt (n := n) h2
        have hs2 := split_pos n
        have hc63 : c ≤ 9223372036854775807 := by have := HC.out; simp only [maxLen] at this; omega
        have u1 : (m : Int) - 1 = ((m - 1 : Nat) : Int) := by omega
        have k1 : ((m - 1 : Nat) : Int) < (m : Int) := by omega
        have k0 : IntKind.i64.wrap ((m - 1 : Nat) : Int) = ((m - 1 : Nat) : Int) := IntWalk.i64_in _ (by omega)
        have k2 : ((m - 1 : Nat) : Int) ≤ (c : Int) := by omega
        obtain ⟨b, of, rfl, hb⟩ := slW.some_ (by omega)
        have rl : W.rangeAt b (of + (m - 1) * 32) (B8 l) := slW.range32 HL.out (m - 1) l HGL.out
        have slq := slW.front32 HL.out (k := m - 1) (by omega)
        rw [show (q ++ [l]).take (m - 1) = q from by rw [← HQ.out]; simp] at slq
        clear slW
        go_wp2_with fail
        refine (refSplit_any n W h2 (by omega)).mono ?_
        rintro e w0 ⟨rfl, rfl⟩
        have HLO := Lib.hid (@sidesS_lo n i h2)
        have HHI := Lib.hid (@sidesS_hi n i h2)
        have HK1 : Hid (splitN n ≤ M) := (show _ ≤ _ by have := HM.out; omega)
        have HK2 : Hid (n - splitN n ≤ M) := (show _ ≤ _ by have := HM.out; omega)
        generalize hsp : splitN n = s at *
        clear hsp
        have SLQ := Lib.hid slq
        clear slq
        by_cases h3 : i < s
        · have t3 : (i : Int) < (s : Int) := by omega
          have HE : Hid (sidesS n i = false :: sidesS s i) := HLO.out h3
          go_wp2_with (first
            | (refine wpl_load_fld (by rfl) _ _ rfl b (of + (m - 1) * 32) rfl (B8 l) _ rl Try.underlying27 rfl (info_hash HLL.out) ?_)
            | (refine wpl_store_new rfl _ _ _ rfl 27 _ (B8 l) rfl rfl (by rw [B8_len, HLL.out]; rfl) (info_hash HLL.out) (B8_one _) ?_
               intro w2 bl2 h2
               simp only [Act.put]))
          have bh2 := bh.to h2
          have bz2 := bz.to h2
          have f2 := hbw.trans (h2.mono hbw.size)
          have sl2 := SLQ.out.to h2
          have hzW := bz.lt
          clear bh bz hbw h2 rl SLQ
          refine wp_region_T [0, 1, 2, 3, 4, 5, 6, 7] 8 12 [(9, true), (10, true), (11, true), (12, false), (13, false), (14, false)] [(8, false), (9, true), (10, true), (11, true), (13, false), (14, false)] (Below w2.heap.size) (by kernel_rfl) (by kernel_rfl) (by kernel_rfl) (by decide) (by decide) (Below.refl _) (fun _ _ _ => Below.trans) (by intro d v c a w h; cases d <;> exact h) ?_
          have hs2 : w2.heap.size = w2.drew.heap.size := rfl
          have bh3 : Blk w2.drew w.heap.size 27 (B8 h) := bh2
          have bz3 : Blk w2.drew (w.heap.size + 1) 27 (B8 zero32) := bz2
          have bl3 : Blk w2.drew W.heap.size 27 (B8 l) := bl2
          have f3 : Below w.heap.size w w2.drew := f2.drew
          have sl3 := sl2.drew
          rw [hs2]
          clear hs2 bh2 bz2 bl2 f2 sl2
          generalize w2.drew = V at *
          have rh : ∀ w', Below V.heap.size V w' → w'.rangeAt w.heap.size 0 (B8 h) := fun w' hw' => (bh3.to hw').range
          repeat (first | (refine wpT_quiet (v := ?_) rfl (by rfl) ?_ ?_; rotate_left; (· (intro w' hw'; go_simp; try with_reducible rfl)); simp only [Act.put, List.setIfInBounds_toArray, List.set_cons_zero, List.set_cons_succ]) | (refine wpT_skip rfl (by rfl) ?_; simp only [Act.put, List.setIfInBounds_toArray, List.set_cons_zero, List.set_cons_succ]))
          refine wpT_load rfl (by rfl) _ _ rfl w.heap.size 0 rfl (B8 h) _ rh Try.underlying27 rfl (info_hash HH.out) ?_
          simp only [Act.put, List.setIfInBounds_toArray, List.set_cons_zero, List.set_cons_succ]
          clear rh
          repeat (first | (refine wpT_quiet (v := ?_) rfl (by rfl) ?_ ?_; rotate_left; (· (intro w' hw'; go_simp; try with_reducible rfl)); simp only [Act.put, List.setIfInBounds_toArray, List.set_cons_zero, List.set_cons_succ]) | (refine wpT_skip rfl (by rfl) ?_; simp only [Act.put, List.setIfInBounds_toArray, List.set_cons_zero, List.set_cons_succ]))
          refine wpT_nil ?m1 ?m2
          case' m1 =>
            ((refine wpC_loud rfl (by rfl) ?_; intro K hK; go_simp)
             refine (ih s i h (some ⟨b, of, none⟩) (m - 1) c q V HK1.out (by omega) (by omega) HH.out HQL.out HQ.out (by omega) HC.out sl3 (by omega)).mono ?_
             rintro e w4 ⟨x, rfl, hx, hfold, h4⟩
             unfold hv
             (refine hK.out _ _ (h4) ?_; clear hK K; try simp only [Act.put, List.setIfInBounds_toArray, List.set_cons_zero, List.set_cons_succ])
             repeat (first | (refine wpC_quiet (v := ?_) rfl (by rfl) ?_ ?_; rotate_left; (· (intro w' hw'; go_simp; try with_reducible rfl)); simp only [Act.put, List.setIfInBounds_toArray, List.set_cons_zero, List.set_cons_succ]) | (refine wpC_val (v := ?_) (Below.refl _) rfl (by rfl) ?_ ?_; rotate_left; (· (go_simp; try with_reducible rfl)); simp only [Act.put, List.setIfInBounds_toArray, List.set_cons_zero, List.set_cons_succ]) | (refine wpC_skip rfl (by rfl) ?_; simp only [Act.put, List.setIfInBounds_toArray, List.set_cons_zero, List.set_cons_succ]) | (refine wpC_skip' (Below.refl _) rfl (by rfl) ?_; simp only [Act.put, List.setIfInBounds_toArray, List.set_cons_zero, List.set_cons_succ]))
             have hs4 := h4.size
             have o4 : Below V.heap.size V (w4.alloc (.cells #[.int .u8 0, .int .u8 0, .int .u8 0, .int .u8 0, .int .u8 0, .int .u8 0, .int .u8 0, .int .u8 0, .int .u8 0, .int .u8 0, .int .u8 0, .int .u8 0, .int .u8 0, .int .u8 0, .int .u8 0, .int .u8 0, .int .u8 0, .int .u8 0, .int .u8 0, .int .u8 0, .int .u8 0, .int .u8 0, .int .u8 0, .int .u8 0, .int .u8 0, .int .u8 0, .int .u8 0, .int .u8 0, .int .u8 0, .int .u8 0, .int .u8 0, .int .u8 0] 27)) := h4.alloc hs4 _
             have bn : Blk (w4.alloc (.cells #[.int .u8 0, .int .u8 0, .int .u8 0, .int .u8 0, .int .u8 0, .int .u8 0, .int .u8 0, .int .u8 0, .int .u8 0, .int .u8 0, .int .u8 0, .int .u8 0, .int .u8 0, .int .u8 0, .int .u8 0, .int .u8 0, .int .u8 0, .int .u8 0, .int .u8 0, .int .u8 0, .int .u8 0, .int .u8 0, .int .u8 0, .int .u8 0, .int .u8 0, .int .u8 0, .int .u8 0, .int .u8 0, .int .u8 0, .int .u8 0, .int .u8 0, .int .u8 0] 27)) w4.heap.size 27 (B8 zero32) := Blk.new w4 #[.int .u8 0, .int .u8 0, .int .u8 0, .int .u8 0, .int .u8 0, .int .u8 0, .int .u8 0, .int .u8 0, .int .u8 0, .int .u8 0, .int .u8 0, .int .u8 0, .int .u8 0, .int .u8 0, .int .u8 0, .int .u8 0, .int .u8 0, .int .u8 0, .int .u8 0, .int .u8 0, .int .u8 0, .int .u8 0, .int .u8 0, .int .u8 0, .int .u8 0, .int .u8 0, .int .u8 0, .int .u8 0, .int .u8 0, .int .u8 0, .int .u8 0, .int .u8 0] 27
             (refine wpC_loud rfl (by rfl) ?_; intro K hK; go_simp)
             (refine hK.out _ _ ((Below.refl _ _).alloc hs4 _) ?_; clear hK K; try simp only [Act.put, List.setIfInBounds_toArray, List.set_cons_zero, List.set_cons_succ])
             obtain ⟨pn, hpn⟩ : ∃ pn, pn = w4.heap.size := ⟨_, rfl⟩
             rw [← hpn] at bn hs4 ⊢
             clear hpn
             generalize w4.alloc (.cells #[.int .u8 0, .int .u8 0, .int .u8 0, .int .u8 0, .int .u8 0, .int .u8 0, .int .u8 0, .int .u8 0, .int .u8 0, .int .u8 0, .int .u8 0, .int .u8 0, .int .u8 0, .int .u8 0, .int .u8 0, .int .u8 0, .int .u8 0, .int .u8 0, .int .u8 0, .int .u8 0, .int .u8 0, .int .u8 0, .int .u8 0, .int .u8 0, .int .u8 0, .int .u8 0, .int .u8 0, .int .u8 0, .int .u8 0, .int .u8 0, .int .u8 0, .int .u8 0] 27) = w5 at *
             clear h4)
          case' m2 =>
            (have hs4 : V.heap.size ≤ V.heap.size := Nat.le_refl _
             have h4 : Below V.heap.size V (V.alloc (.cells #[.int .u8 0, .int .u8 0, .int .u8 0, .int .u8 0, .int .u8 0, .int .u8 0, .int .u8 0, .int .u8 0, .int .u8 0, .int .u8 0, .int .u8 0, .int .u8 0, .int .u8 0, .int .u8 0, .int .u8 0, .int .u8 0, .int .u8 0, .int .u8 0, .int .u8 0, .int .u8 0, .int .u8 0, .int .u8 0, .int .u8 0, .int .u8 0, .int .u8 0, .int .u8 0, .int .u8 0, .int .u8 0, .int .u8 0, .int .u8 0, .int .u8 0, .int .u8 0] 27)) := (Below.refl _ _).alloc (Nat.le_refl _) _
             have bn4 : Blk (V.alloc (.cells #[.int .u8 0, .int .u8 0, .int .u8 0, .int .u8 0, .int .u8 0, .int .u8 0, .int .u8 0, .int .u8 0, .int .u8 0, .int .u8 0, .int .u8 0, .int .u8 0, .int .u8 0, .int .u8 0, .int .u8 0, .int .u8 0, .int .u8 0, .int .u8 0, .int .u8 0, .int .u8 0, .int .u8 0, .int .u8 0, .int .u8 0, .int .u8 0, .int .u8 0, .int .u8 0, .int .u8 0, .int .u8 0, .int .u8 0, .int .u8 0, .int .u8 0, .int .u8 0] 27)) V.heap.size 27 (B8 zero32) := Blk.new V #[.int .u8 0, .int .u8 0, .int .u8 0, .int .u8 0, .int .u8 0, .int .u8 0, .int .u8 0, .int .u8 0, .int .u8 0, .int .u8 0, .int .u8 0, .int .u8 0, .int .u8 0, .int .u8 0, .int .u8 0, .int .u8 0, .int .u8 0, .int .u8 0, .int .u8 0, .int .u8 0, .int .u8 0, .int .u8 0, .int .u8 0, .int .u8 0, .int .u8 0, .int .u8 0, .int .u8 0, .int .u8 0, .int .u8 0, .int .u8 0, .int .u8 0, .int .u8 0] 27
             (refine wpC_loud rfl (by rfl) ?_; intro K hK; go_simp)
             (refine hK.out _ _ (h4) ?_; clear hK K; try simp only [Act.put, List.setIfInBounds_toArray, List.set_cons_zero, List.set_cons_succ])
             have sl4 := sl3.to h4
             obtain ⟨pn, hpn⟩ : ∃ pn, pn = V.heap.size := ⟨_, rfl⟩
             have hs5 : V.heap.size ≤ pn := by omega
             rw [← hpn] at bn4
             rw [show Value.pointer (some ⟨V.heap.size, 0, none⟩) = Value.pointer (some ⟨pn, 0, none⟩) from by rw [hpn]]
             clear hs4 hpn
             generalize V.alloc (.cells #[.int .u8 0, .int .u8 0, .int .u8 0, .int .u8 0, .int .u8 0, .int .u8 0, .int .u8 0, .int .u8 0, .int .u8 0, .int .u8 0, .int .u8 0, .int .u8 0, .int .u8 0, .int .u8 0, .int .u8 0, .int .u8 0, .int .u8 0, .int .u8 0, .int .u8 0, .int .u8 0, .int .u8 0, .int .u8 0, .int .u8 0, .int .u8 0, .int .u8 0, .int .u8 0, .int .u8 0, .int .u8 0, .int .u8 0, .int .u8 0, .int .u8 0, .int .u8 0] 27) = w4 at *
             have hl4 := h4.size
             (refine wpC_loud rfl (by rfl) ?_; intro K hK; go_simp)
             refine (ih s i h (some ⟨b, of, none⟩) (m - 1) c q w4 HK1.out (by omega) (by omega) HH.out HQL.out HQ.out (by omega) HC.out sl4 (by omega)).mono ?_
             rintro e w5 ⟨x, rfl, hx, hfold, h5⟩
             unfold hv
             (refine hK.out _ _ (h5.mono hl4) ?_; clear hK K; try simp only [Act.put, List.setIfInBounds_toArray, List.set_cons_zero, List.set_cons_succ])
             repeat (first | (refine wpC_quiet (v := ?_) rfl (by rfl) ?_ ?_; rotate_left; (· (intro w' hw'; go_simp; try with_reducible rfl)); simp only [Act.put, List.setIfInBounds_toArray, List.set_cons_zero, List.set_cons_succ]) | (refine wpC_val (v := ?_) (Below.refl _) rfl (by rfl) ?_ ?_; rotate_left; (· (go_simp; try with_reducible rfl)); simp only [Act.put, List.setIfInBounds_toArray, List.set_cons_zero, List.set_cons_succ]) | (refine wpC_skip rfl (by rfl) ?_; simp only [Act.put, List.setIfInBounds_toArray, List.set_cons_zero, List.set_cons_succ]) | (refine wpC_skip' (Below.refl _) rfl (by rfl) ?_; simp only [Act.put, List.setIfInBounds_toArray, List.set_cons_zero, List.set_cons_succ]))
             have bn := bn4.to h5
             have o4 := h4.trans (h5.mono hl4)
             have hs4 := hs5
             clear h4 h5 bn4 sl4 hl4 hs5)
          all_goals
            have HX := Lib.hid hx
            have HF := Lib.hid hfold
            clear hx hfold
            refine wpC_store_fld rfl (by rfl) _ _ _ rfl pn 0 _ _ (B8 x) rfl _ rfl rfl bn (by rw [B8_len, HX.out]; decide) (info_hash HX.out) (B8_one _) (fun w' hw' => below_but hw' hs4 o4.size) ?_
            intro w6 b6 u6
            rw [put_all _ _ (by rw [B8_len, HX.out]; rfl)] at b6
            have o6 := o4.trans (below_but u6 hs4 o4.size)
            clear o4 u6 bn
            simp only [Act.put, List.setIfInBounds_toArray, List.set_cons_zero, List.set_cons_succ]
            repeat (first | (refine wpC_quiet (v := ?_) rfl (by rfl) ?_ ?_; rotate_left; (· (intro w' hw'; go_simp; try with_reducible rfl)); simp only [Act.put, List.setIfInBounds_toArray, List.set_cons_zero, List.set_cons_succ]) | (refine wpC_val (v := ?_) (Below.refl _) rfl (by rfl) ?_ ?_; rotate_left; (· (go_simp; try with_reducible rfl)); simp only [Act.put, List.setIfInBounds_toArray, List.set_cons_zero, List.set_cons_succ]) | (refine wpC_skip rfl (by rfl) ?_; simp only [Act.put, List.setIfInBounds_toArray, List.set_cons_zero, List.set_cons_succ]) | (refine wpC_skip' (Below.refl _) rfl (by rfl) ?_; simp only [Act.put, List.setIfInBounds_toArray, List.set_cons_zero, List.set_cons_succ]))
            refine wpC_nil ?_
            have bz6 := bz3.to o6
            have bl6 := bl3.to o6
            have f6 := f3.trans (o6.mono f3.size)
            have hV := bz3.lt
            clear bz3 bl3 bh3 f3 o6 sl3
            have HT := Lib.hid (twoS_len x l)
            have HEQ : Hid (foldUp (false :: sidesS s i).reverse (q ++ [l]) h = (if false then twoS l (foldUp (sidesS s i).reverse q h) else twoS (foldUp (sidesS s i).reverse q h) l) ∨ q.length ≠ (sidesS s i).length) := (show _ ∨ _ by
              by_cases hq : q.length = (sidesS s i).length
              · left
                rw [List.reverse_cons, foldUp_snoc _ _ _ _ _ (by rw [List.length_reverse, hq])]
              · right; exact hq)
            go_wp2_with (first
              | (refine wpl_load_fld (by rfl) _ _ rfl pn 0 rfl (B8 x) _ b6.range Try.underlying27 rfl (info_hash HX.out) ?_)
              | (refine wpl_load_fld (by rfl) _ _ rfl W.heap.size 0 rfl (B8 l) _ bl6.range Try.underlying27 rfl (info_hash HLL.out) ?_))
            refine (refTwo_any x l HX.out HLL.out w6).mono ?_
            rintro e w7 ⟨rfl, h7⟩
            generalize hsm : twoS x l = sm at *
            have HSM := Lib.hid hsm
            clear hsm
            unfold hv
            have bz7 := bz6.to h7
            have f7 := f6.trans (h7.mono f6.size)
            clear bz6 bl6 f6 h7 b6
            go_wp2_with (first
              | (refine wpl_store_fld (by rfl) _ _ _ rfl (w.heap.size + 1) 0 _ _ (B8 sm) rfl _ rfl rfl bz7 (by rw [B8_len, HT.out]; exact Nat.le_refl _) (info_hash HT.out) (B8_one _) ?_
                 intro w8 bz8 bu8
                 simp only [Act.put]
                 rw [put_all _ _ (by rw [B8_len, HT.out]; rfl)] at bz8))
            refine bodyPost_ret (v := .tuple #[.agg (B8 sm).toArray, .bool (decide (q.length = (sidesS s i).length))]) (results_blk2 Try.results58 rfl rfl bz8 Try.underlying27 rfl (info_hash HT.out)) rfl ⟨sm, ?_, HT.out, ?_, f7.trans (below_but bu8 (Nat.le_succ _) f7.size)⟩
            · rw [HE.out]
              have : decide ((q ++ [l]).length = (false :: sidesS s i).length) = decide (q.length = (sidesS s i).length) := by
                rw [decide_eq_decide]
                simp
              rw [this]
              rfl
            · intro he
              rw [HE.out] at he ⊢
              have hq : q.length = (sidesS s i).length := by simpa using he
              rcases HEQ.out with h9 | h9
              · rw [h9, ← HSM.out, HF.out hq]
                rfl
              · exact absurd hq h9
        · have t3 : ¬ (i : Int) < (s : Int) := by omega
          have u2 : (n : Int) - (s : Int) = ((n - s : Nat) : Int) := by omega
          have u3 : (i : Int) - (s : Int) = ((i - s : Nat) : Int) := by omega
          have u4 : IntKind.i64.wrap ((n - s : Nat) : Int) = ((n - s : Nat) : Int) := IntWalk.i64_in _ (by omega)
          have u5 : IntKind.i64.wrap ((i - s : Nat) : Int) = ((i - s : Nat) : Int) := IntWalk.i64_in _ (by omega)
          have HE : Hid (sidesS n i = true :: sidesS (n - s) (i - s)) := HHI.out (by omega)
          go_wp2_with (first
            | (refine wpl_load_fld (by rfl) _ _ rfl b (of + (m - 1) * 32) rfl (B8 l) _ rl Try.underlying27 rfl (info_hash HLL.out) ?_)
            | (refine wpl_store_new rfl _ _ _ rfl 27 _ (B8 l) rfl rfl (by rw [B8_len, HLL.out]; rfl) (info_hash HLL.out) (B8_one _) ?_
               intro w2 bl2 h2
               simp only [Act.put]))
          have bh2 := bh.to h2
          have bz2 := bz.to h2
          have f2 := hbw.trans (h2.mono hbw.size)
          have sl2 := SLQ.out.to h2
          have hzW := bz.lt
          clear bh bz hbw h2 rl SLQ
          refine wp_region_T [0, 1, 2, 3, 4, 5, 6, 7, 8, 9, 10, 11] 12 16 [(13, true), (14, true), (15, true), (16, false), (17, false), (18, false)] [(12, false), (13, true), (14, true), (15, true), (17, false), (18, false)] (Below w2.heap.size) (by kernel_rfl) (by kernel_rfl) (by kernel_rfl) (by decide) (by decide) (Below.refl _) (fun _ _ _ => Below.trans) (by intro d v c a w h; cases d <;> exact h) ?_
          have hs2 : w2.heap.size = w2.drew.heap.size := rfl
          have bh3 : Blk w2.drew w.heap.size 27 (B8 h) := bh2
          have bz3 : Blk w2.drew (w.heap.size + 1) 27 (B8 zero32) := bz2
          have bl3 : Blk w2.drew W.heap.size 27 (B8 l) := bl2
          have f3 : Below w.heap.size w w2.drew := f2.drew
          have sl3 := sl2.drew
          rw [hs2]
          clear hs2 bh2 bz2 bl2 f2 sl2
          generalize w2.drew = V at *
          have rh : ∀ w', Below V.heap.size V w' → w'.rangeAt w.heap.size 0 (B8 h) := fun w' hw' => (bh3.to hw').range
          repeat (first | (refine wpT_quiet (v := ?_) rfl (by rfl) ?_ ?_; rotate_left; (· (intro w' hw'; go_simp; try with_reducible rfl)); simp only [Act.put, List.setIfInBounds_toArray, List.set_cons_zero, List.set_cons_succ]) | (refine wpT_skip rfl (by rfl) ?_; simp only [Act.put, List.setIfInBounds_toArray, List.set_cons_zero, List.set_cons_succ]))
          refine wpT_load rfl (by rfl) _ _ rfl w.heap.size 0 rfl (B8 h) _ rh Try.underlying27 rfl (info_hash HH.out) ?_
          simp only [Act.put, List.setIfInBounds_toArray, List.set_cons_zero, List.set_cons_succ]
          clear rh
          repeat (first | (refine wpT_quiet (v := ?_) rfl (by rfl) ?_ ?_; rotate_left; (· (intro w' hw'; go_simp; try with_reducible rfl)); simp only [Act.put, List.setIfInBounds_toArray, List.set_cons_zero, List.set_cons_succ]) | (refine wpT_skip rfl (by rfl) ?_; simp only [Act.put, List.setIfInBounds_toArray, List.set_cons_zero, List.set_cons_succ]))
          refine wpT_nil ?m3 ?m4
          case' m3 =>
            ((refine wpC_loud rfl (by rfl) ?_; intro K hK; go_simp)
             refine (ih (n - s) (i - s) h (some ⟨b, of, none⟩) (m - 1) c q V HK2.out (by omega) (by omega) HH.out HQL.out HQ.out (by omega) HC.out sl3 (by omega)).mono ?_
             rintro e w4 ⟨x, rfl, hx, hfold, h4⟩
             unfold hv
             (refine hK.out _ _ (h4) ?_; clear hK K; try simp only [Act.put, List.setIfInBounds_toArray, List.set_cons_zero, List.set_cons_succ])
             repeat (first | (refine wpC_quiet (v := ?_) rfl (by rfl) ?_ ?_; rotate_left; (· (intro w' hw'; go_simp; try with_reducible rfl)); simp only [Act.put, List.setIfInBounds_toArray, List.set_cons_zero, List.set_cons_succ]) | (refine wpC_val (v := ?_) (Below.refl _) rfl (by rfl) ?_ ?_; rotate_left; (· (go_simp; try with_reducible rfl)); simp only [Act.put, List.setIfInBounds_toArray, List.set_cons_zero, List.set_cons_succ]) | (refine wpC_skip rfl (by rfl) ?_; simp only [Act.put, List.setIfInBounds_toArray, List.set_cons_zero, List.set_cons_succ]) | (refine wpC_skip' (Below.refl _) rfl (by rfl) ?_; simp only [Act.put, List.setIfInBounds_toArray, List.set_cons_zero, List.set_cons_succ]))
             have hs4 := h4.size
             have o4 : Below V.heap.size V (w4.alloc (.cells #[.int .u8 0, .int .u8 0, .int .u8 0, .int .u8 0, .int .u8 0, .int .u8 0, .int .u8 0, .int .u8 0, .int .u8 0, .int .u8 0, .int .u8 0, .int .u8 0, .int .u8 0, .int .u8 0, .int .u8 0, .int .u8 0, .int .u8 0, .int .u8 0, .int .u8 0, .int .u8 0, .int .u8 0, .int .u8 0, .int .u8 0, .int .u8 0, .int .u8 0, .int .u8 0, .int .u8 0, .int .u8 0, .int .u8 0, .int .u8 0, .int .u8 0, .int .u8 0] 27)) := h4.alloc hs4 _
             have bn : Blk (w4.alloc (.cells #[.int .u8 0, .int .u8 0, .int .u8 0, .int .u8 0, .int .u8 0, .int .u8 0, .int .u8 0, .int .u8 0, .int .u8 0, .int .u8 0, .int .u8 0, .int .u8 0, .int .u8 0, .int .u8 0, .int .u8 0, .int .u8 0, .int .u8 0, .int .u8 0, .int .u8 0, .int .u8 0, .int .u8 0, .int .u8 0, .int .u8 0, .int .u8 0, .int .u8 0, .int .u8 0, .int .u8 0, .int .u8 0, .int .u8 0, .int .u8 0, .int .u8 0, .int .u8 0] 27)) w4.heap.size 27 (B8 zero32) := Blk.new w4 #[.int .u8 0, .int .u8 0, .int .u8 0, .int .u8 0, .int .u8 0, .int .u8 0, .int .u8 0, .int .u8 0, .int .u8 0, .int .u8 0, .int .u8 0, .int .u8 0, .int .u8 0, .int .u8 0, .int .u8 0, .int .u8 0, .int .u8 0, .int .u8 0, .int .u8 0, .int .u8 0, .int .u8 0, .int .u8 0, .int .u8 0, .int .u8 0, .int .u8 0, .int .u8 0, .int .u8 0, .int .u8 0, .int .u8 0, .int .u8 0, .int .u8 0, .int .u8 0] 27
             (refine wpC_loud rfl (by rfl) ?_; intro K hK; go_simp)
             (refine hK.out _ _ ((Below.refl _ _).alloc hs4 _) ?_; clear hK K; try simp only [Act.put, List.setIfInBounds_toArray, List.set_cons_zero, List.set_cons_succ])
             obtain ⟨pn, hpn⟩ : ∃ pn, pn = w4.heap.size := ⟨_, rfl⟩
             rw [← hpn] at bn hs4 ⊢
             clear hpn
             generalize w4.alloc (.cells #[.int .u8 0, .int .u8 0, .int .u8 0, .int .u8 0, .int .u8 0, .int .u8 0, .int .u8 0, .int .u8 0, .int .u8 0, .int .u8 0, .int .u8 0, .int .u8 0, .int .u8 0, .int .u8 0, .int .u8 0, .int .u8 0, .int .u8 0, .int .u8 0, .int .u8 0, .int .u8 0, .int .u8 0, .int .u8 0, .int .u8 0, .int .u8 0, .int .u8 0, .int .u8 0, .int .u8 0, .int .u8 0, .int .u8 0, .int .u8 0, .int .u8 0, .int .u8 0] 27) = w5 at *
             clear h4)
          case' m4 =>
            (have hs4 : V.heap.size ≤ V.heap.size := Nat.le_refl _
             have h4 : Below V.heap.size V (V.alloc (.cells #[.int .u8 0, .int .u8 0, .int .u8 0, .int .u8 0, .int .u8 0, .int .u8 0, .int .u8 0, .int .u8 0, .int .u8 0, .int .u8 0, .int .u8 0, .int .u8 0, .int .u8 0, .int .u8 0, .int .u8 0, .int .u8 0, .int .u8 0, .int .u8 0, .int .u8 0, .int .u8 0, .int .u8 0, .int .u8 0, .int .u8 0, .int .u8 0, .int .u8 0, .int .u8 0, .int .u8 0, .int .u8 0, .int .u8 0, .int .u8 0, .int .u8 0, .int .u8 0] 27)) := (Below.refl _ _).alloc (Nat.le_refl _) _
             have bn4 : Blk (V.alloc (.cells #[.int .u8 0, .int .u8 0, .int .u8 0, .int .u8 0, .int .u8 0, .int .u8 0, .int .u8 0, .int .u8 0, .int .u8 0, .int .u8 0, .int .u8 0, .int .u8 0, .int .u8 0, .int .u8 0, .int .u8 0, .int .u8 0, .int .u8 0, .int .u8 0, .int .u8 0, .int .u8 0, .int .u8 0, .int .u8 0, .int .u8 0, .int .u8 0, .int .u8 0, .int .u8 0, .int .u8 0, .int .u8 0, .int .u8 0, .int .u8 0, .int .u8 0, .int .u8 0] 27)) V.heap.size 27 (B8 zero32) := Blk.new V #[.int .u8 0, .int .u8 0, .int .u8 0, .int .u8 0, .int .u8 0, .int .u8 0, .int .u8 0, .int .u8 0, .int .u8 0, .int .u8 0, .int .u8 0, .int .u8 0, .int .u8 0, .int .u8 0, .int .u8 0, .int .u8 0, .int .u8 0, .int .u8 0, .int .u8 0, .int .u8 0, .int .u8 0, .int .u8 0, .int .u8 0, .int .u8 0, .int .u8 0, .int .u8 0, .int .u8 0, .int .u8 0, .int .u8 0, .int .u8 0, .int .u8 0, .int .u8 0] 27
             (refine wpC_loud rfl (by rfl) ?_; intro K hK; go_simp)
             (refine hK.out _ _ (h4) ?_; clear hK K; try simp only [Act.put, List.setIfInBounds_toArray, List.set_cons_zero, List.set_cons_succ])
             have sl4 := sl3.to h4
             obtain ⟨pn, hpn⟩ : ∃ pn, pn = V.heap.size := ⟨_, rfl⟩
             have hs5 : V.heap.size ≤ pn := by omega
             rw [← hpn] at bn4
             rw [show Value.pointer (some ⟨V.heap.size, 0, none⟩) = Value.pointer (some ⟨pn, 0, none⟩) from by rw [hpn]]
             clear hs4 hpn
             generalize V.alloc (.cells #[.int .u8 0, .int .u8 0, .int .u8 0, .int .u8 0, .int .u8 0, .int .u8 0, .int .u8 0, .int .u8 0, .int .u8 0, .int .u8 0, .int .u8 0, .int .u8 0, .int .u8 0, .int .u8 0, .int .u8 0, .int .u8 0, .int .u8 0, .int .u8 0, .int .u8 0, .int .u8 0, .int .u8 0, .int .u8 0, .int .u8 0, .int .u8 0, .int .u8 0, .int .u8 0, .int .u8 0, .int .u8 0, .int .u8 0, .int .u8 0, .int .u8 0, .int .u8 0] 27) = w4 at *
             have hl4 := h4.size
             (refine wpC_loud rfl (by rfl) ?_; intro K hK; go_simp)
             refine (ih (n - s) (i - s) h (some ⟨b, of, none⟩) (m - 1) c q w4 HK2.out (by omega) (by omega) HH.out HQL.out HQ.out (by omega) HC.out sl4 (by omega)).mono ?_
             rintro e w5 ⟨x, rfl, hx, hfold, h5⟩
             unfold hv
             (refine hK.out _ _ (h5.mono hl4) ?_; clear hK K; try simp only [Act.put, List.setIfInBounds_toArray, List.set_cons_zero, List.set_cons_succ])
             repeat (first | (refine wpC_quiet (v := ?_) rfl (by rfl) ?_ ?_; rotate_left; (· (intro w' hw'; go_simp; try with_reducible rfl)); simp only [Act.put, List.setIfInBounds_toArray, List.set_cons_zero, List.set_cons_succ]) | (refine wpC_val (v := ?_) (Below.refl _) rfl (by rfl) ?_ ?_; rotate_left; (· (go_simp; try with_reducible rfl)); simp only [Act.put, List.setIfInBounds_toArray, List.set_cons_zero, List.set_cons_succ]) | (refine wpC_skip rfl (by rfl) ?_; simp only [Act.put, List.setIfInBounds_toArray, List.set_cons_zero, List.set_cons_succ]) | (refine wpC_skip' (Below.refl _) rfl (by rfl) ?_; simp only [Act.put, List.setIfInBounds_toArray, List.set_cons_zero, List.set_cons_succ]))
             have bn := bn4.to h5
             have o4 := h4.trans (h5.mono hl4)
             have hs4 := hs5
             clear h4 h5 bn4 sl4 hl4 hs5)
          all_goals
            have HX := Lib.hid hx
            have HF := Lib.hid hfold
            clear hx hfold
            refine wpC_store_fld rfl (by rfl) _ _ _ rfl pn 0 _ _ (B8 x) rfl _ rfl rfl bn (by rw [B8_len, HX.out]; decide) (info_hash HX.out) (B8_one _) (fun w' hw' => below_but hw' hs4 o4.size) ?_
            intro w6 b6 u6
            rw [put_all _ _ (by rw [B8_len, HX.out]; rfl)] at b6
            have o6 := o4.trans (below_but u6 hs4 o4.size)
            clear o4 u6 bn
            simp only [Act.put, List.setIfInBounds_toArray, List.set_cons_zero, List.set_cons_succ]
            repeat (first | (refine wpC_quiet (v := ?_) rfl (by rfl) ?_ ?_; rotate_left; (· (intro w' hw'; go_simp; try with_reducible rfl)); simp only [Act.put, List.setIfInBounds_toArray, List.set_cons_zero, List.set_cons_succ]) | (refine wpC_val (v := ?_) (Below.refl _) rfl (by rfl) ?_ ?_; rotate_left; (· (go_simp; try with_reducible rfl)); simp only [Act.put, List.setIfInBounds_toArray, List.set_cons_zero, List.set_cons_succ]) | (refine wpC_skip rfl (by rfl) ?_; simp only [Act.put, List.setIfInBounds_toArray, List.set_cons_zero, List.set_cons_succ]) | (refine wpC_skip' (Below.refl _) rfl (by rfl) ?_; simp only [Act.put, List.setIfInBounds_toArray, List.set_cons_zero, List.set_cons_succ]))
            refine wpC_nil ?_
            have bz6 := bz3.to o6
            have bl6 := bl3.to o6
            have f6 := f3.trans (o6.mono f3.size)
            have hV := bz3.lt
            clear bz3 bl3 bh3 f3 o6 sl3
            have HT := Lib.hid (twoS_len l x)
            have HEQ : Hid (foldUp (true :: sidesS (n - s) (i - s)).reverse (q ++ [l]) h = (if true then twoS l (foldUp (sidesS (n - s) (i - s)).reverse q h) else twoS (foldUp (sidesS (n - s) (i - s)).reverse q h) l) ∨ q.length ≠ (sidesS (n - s) (i - s)).length) := (show _ ∨ _ by
              by_cases hq : q.length = (sidesS (n - s) (i - s)).length
              · left
                rw [List.reverse_cons, foldUp_snoc _ _ _ _ _ (by rw [List.length_reverse, hq])]
              · right; exact hq)
            go_wp2_with (first
              | (refine wpl_load_fld (by rfl) _ _ rfl pn 0 rfl (B8 x) _ b6.range Try.underlying27 rfl (info_hash HX.out) ?_)
              | (refine wpl_load_fld (by rfl) _ _ rfl W.heap.size 0 rfl (B8 l) _ bl6.range Try.underlying27 rfl (info_hash HLL.out) ?_))
            refine (refTwo_any l x HLL.out HX.out w6).mono ?_
            rintro e w7 ⟨rfl, h7⟩
            generalize hsm : twoS l x = sm at *
            have HSM := Lib.hid hsm
            clear hsm
            unfold hv
            have bz7 := bz6.to h7
            have f7 := f6.trans (h7.mono f6.size)
            clear bz6 bl6 f6 h7 b6
            go_wp2_with (first
              | (refine wpl_store_fld (by rfl) _ _ _ rfl (w.heap.size + 1) 0 _ _ (B8 sm) rfl _ rfl rfl bz7 (by rw [B8_len, HT.out]; exact Nat.le_refl _) (info_hash HT.out) (B8_one _) ?_
                 intro w8 bz8 bu8
                 simp only [Act.put]
                 rw [put_all _ _ (by rw [B8_len, HT.out]; rfl)] at bz8))
            refine bodyPost_ret (v := .tuple #[.agg (B8 sm).toArray, .bool (decide (q.length = (sidesS (n - s) (i - s)).length))]) (results_blk2 Try.results58 rfl rfl bz8 Try.underlying27 rfl (info_hash HT.out)) rfl ⟨sm, ?_, HT.out, ?_, f7.trans (below_but bu8 (Nat.le_succ _) f7.size)⟩
            · rw [HE.out]
              have : decide ((q ++ [l]).length = (true :: sidesS (n - s) (i - s)).length) = decide (q.length = (sidesS (n - s) (i - s)).length) := by
                rw [decide_eq_decide]
                simp
              rw [this]
              rfl
            · intro he
              rw [HE.out] at he ⊢
              have hq : q.length = (sidesS (n - s) (i - s)).length := by simpa using he
              rcases HEQ.out with h9 | h9
              · rw [h9, ← HSM.out, HF.out hq]
                rfl
              · exact absurd hq h9
end Go.Proofs.Ytakebmpnbdlcoaa

