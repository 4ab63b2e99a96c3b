/- Walks: trace.Commit; capstanlaw12's known and within. -/
import Derived.Test.YtakebmpnbdlcoaaTraceX
import Derived.Test.YtakebmpnbdlcoaaTraceY
import Derived.Test.YtakebmpnbdlcoaaHashes
import Derived.Test.YtakebmpnbdlcoaaBs
set_option linter.unusedSimpArgs false
set_option linter.unusedVariables false
namespace Go.Proofs.Ytakebmpnbdlcoaa
open Go.RowKit
set_option maxRecDepth 100000
theorem within_capstanlaw12 (a n : Int) (w : World) (hn : 0 < n) (hn2 : n < 1099511627776) (ha : -9223372036854775808 ≤ a) (ha2 : a < 9223372036854775808) :
    Calls Try.prog 33 #[.int .i64 a, .int .i64 n] w fun e w' => e = .returned (.int .i64 (a % n)) ∧ w = w' := by
  have e1 : a % n = if a.tmod n < 0 then a.tmod n + n else a.tmod n := by
    rw [Int.tmod_eq_emod]
    have := Int.emod_nonneg a (show n ≠ 0 by omega)
    have := Int.emod_lt_of_pos a hn
    have hnn : (n.natAbs : Int) = n := by omega
    split <;> split <;> omega
  have b1 : -n < a.tmod n := by have := Int.lt_tmod_of_pos a hn; omega
  have b2 : a.tmod n < n := Int.tmod_lt_of_pos a hn
  have H := Lib.hid e1
  clear e1
  by_cases h : a.tmod n < 0
  · go_enter Try.func33, Try.ntmps33
    go_wp2
    go_ret
    exact ⟨ret_int (by rw [H.out, if_pos h]), rfl⟩
  · go_enter Try.func33, Try.ntmps33
    go_wp2
    go_ret
    exact ⟨ret_int (by rw [H.out, if_neg (Int.not_lt.2 h)]), rfl⟩
set_option maxRecDepth 100000 in
set_option maxHeartbeats 2000000 in
theorem cmt_any (A : Option Addr) (n c : Nat) (hs : List (List UInt8)) (w : World) (hnc : n ≤ c) (hc : c ≤ maxLen) (hn : n ≤ 1073741824) (hl : ∀ x ∈ hs, x.length = 32) (hlen : hs.length = n) (sl : Sl w 32 A n (H8 hs)) :
    Calls Try.prog 34 #[.slice A n c] w fun e w' => e = .returned (hv (commitS hs)) ∧ Below w.heap.size w w' := by
  obtain ⟨W, HW, hbw, bz⟩ : ∃ W, Hid (W = w.alloc (.cells #[.int .u8 0, .int .u8 0, .int .u8 0, .int .u8 0, .int .u8 0, .int .u8 0, .int .u8 0, .int .u8 0, .int .u8 0, .int .u8 0, .int .u8 0, .int .u8 0, .int .u8 0, .int .u8 0, .int .u8 0, .int .u8 0, .int .u8 0, .int .u8 0, .int .u8 0, .int .u8 0, .int .u8 0, .int .u8 0, .int .u8 0, .int .u8 0, .int .u8 0, .int .u8 0, .int .u8 0, .int .u8 0, .int .u8 0, .int .u8 0, .int .u8 0, .int .u8 0] 27)) ∧ Below w.heap.size w W ∧ Blk W w.heap.size 27 (B8 zero32) := ⟨_, rfl, (Below.refl _ _).alloc (Nat.le_refl _) _, Blk.new w #[.int .u8 0, .int .u8 0, .int .u8 0, .int .u8 0, .int .u8 0, .int .u8 0, .int .u8 0, .int .u8 0, .int .u8 0, .int .u8 0, .int .u8 0, .int .u8 0, .int .u8 0, .int .u8 0, .int .u8 0, .int .u8 0, .int .u8 0, .int .u8 0, .int .u8 0, .int .u8 0, .int .u8 0, .int .u8 0, .int .u8 0, .int .u8 0, .int .u8 0, .int .u8 0, .int .u8 0, .int .u8 0, .int .u8 0, .int .u8 0, .int .u8 0, .int .u8 0] 27⟩
  have slW := sl.to hbw
  have HS := Lib.hid (commitS_len hs hl)
  have H := Lib.hid (commit_any n n A c hs W (Nat.le_refl _) hnc hc hn hl hlen slW)
  clear slW sl hl hlen
  go_enter Try.func34, Try.ntmps34
  go_upto_region 1 with fail
  refine wp_at HW.out ?_
  clear HW
  go_wp2_with fail
  refine H.out.mono ?_
  rintro e w1 ⟨rfl, h1⟩
  obtain ⟨sm, hsm⟩ : ∃ sm, sm = commitS hs := ⟨_, rfl⟩
  rw [← hsm] at HS ⊢
  have HT := Lib.hid hsm.symm
  clear hsm H
  unfold hv
  have bz1 := bz.to h1
  have f1 := hbw.trans (h1.mono hbw.size)
  go_wp2_with (first
    | (refine wpl_store_fld (by rfl) _ _ _ rfl w.heap.size 0 _ _ (B8 sm) rfl _ rfl rfl bz1 (by rw [B8_len, HS.out]; decide) (info_hash HS.out) (B8_one _) ?_
       intro w2 bz2 bu2
       rw [put_all _ _ (by rw [B8_len, HS.out]; rfl)] at bz2))
  exact bodyPost_ret (v := hv sm) (results_blk Try.results34 rfl bz2 Try.underlying27 rfl (info_hash HS.out)) rfl ⟨by rw [HT.out], f1.trans (below_but bu2 (Nat.le_refl _) f1.size)⟩
/-- a sum of one byte, and noughts -/
def byteS (x : UInt8) : List UInt8 := x :: List.replicate 31 0
theorem byteS_len (x : UInt8) : (byteS x).length = 32 := by simp [byteS]
theorem built_by (x : UInt8) : Try.prog.built 27 [(0, .int .u8 (x.toNat : Int))] = some (B8 (byteS x)).toArray := by kernel_rfl
theorem eq_same (a : List UInt8) (ha : a.length = 32) (w : World) : (Op.equalIn 10000 27 (.agg (B8 a).toArray) (.agg (B8 a).toArray)).run Try.prog w = .ok true w := by
  rw [eq_hash a a ha ha w]
  simp
theorem commit_three (a b c : List UInt8) : commitS [a, b, c] = twoS (twoS a b) c := by
  rw [commitS_step _ (by simp)]
  have h3 : splitN 3 = 2 := split_of (j := 1) (by decide) (by decide)
  have h2 : splitN 2 = 1 := split_of (j := 0) (by decide) (by decide)
  simp only [List.length_cons, List.length_nil, Nat.zero_add, Nat.reduceAdd, h3, List.take_succ_cons, List.take_zero, List.drop_succ_cons, List.drop_zero, commitS_one]
  rw [commitS_step [a, b] (by simp)]
  simp only [List.length_cons, List.length_nil, Nat.zero_add, Nat.reduceAdd, h2, List.take_succ_cons, List.take_zero, List.drop_succ_cons, List.drop_zero, commitS_one]
theorem ver_one (a : List UInt8) : verS a 1 0 a [] = true := by
  unfold verS
  rw [decide_eq_true_eq]
  exact ⟨by decide, by decide, by decide, by decide, by rw [sidesS_one _ (by decide)]; rfl, by rw [sidesS_one _ (by decide)]; rfl⟩
set_option maxRecDepth 100000 in
set_option maxHeartbeats 2000000 in
theorem traceKnown_any (w : World) : Calls Try.prog 30 #[] w (RB true w) := by
  have hb1 := built_by 1
  have hb2 := built_by 2
  have hb3 := built_by 3
  have L1 := byteS_len 1
  have L2 := byteS_len 2
  have L3 := byteS_len 3
  generalize byteS 1 = s1 at *
  generalize byteS 2 = s2 at *
  generalize byteS 3 = s3 at *
  have HB1 := Lib.hid hb1
  have HB2 := Lib.hid hb2
  have HB3 := Lib.hid hb3
  have HL1 := Lib.hid L1
  have HL2 := Lib.hid L2
  have HL3 := Lib.hid L3
  clear hb1 hb2 hb3 L1 L2 L3
  obtain ⟨W, HW, hbw, z1, z2, z3⟩ : ∃ W, Hid (W = ((w.alloc (.cells #[.int .u8 0, .int .u8 0, .int .u8 0, .int .u8 0, .int .u8 0, .int .u8 0, .int .u8 0, .int .u8 0, .int .u8 0, .int .u8 0, .int .u8 0, .int .u8 0, .int .u8 0, .int .u8 0, .int .u8 0, .int .u8 0, .int .u8 0, .int .u8 0, .int .u8 0, .int .u8 0, .int .u8 0, .int .u8 0, .int .u8 0, .int .u8 0, .int .u8 0, .int .u8 0, .int .u8 0, .int .u8 0, .int .u8 0, .int .u8 0, .int .u8 0, .int .u8 0] 27)).alloc (.cells #[.int .u8 0, .int .u8 0, .int .u8 0, .int .u8 0, .int .u8 0, .int .u8 0, .int .u8 0, .int .u8 0, .int .u8 0, .int .u8 0, .int .u8 0, .int .u8 0, .int .u8 0, .int .u8 0, .int .u8 0, .int .u8 0, .int .u8 0, .int .u8 0, .int .u8 0, .int .u8 0, .int .u8 0, .int .u8 0, .int .u8 0, .int .u8 0, .int .u8 0, .int .u8 0, .int .u8 0, .int .u8 0, .int .u8 0, .int .u8 0, .int .u8 0, .int .u8 0] 27)).alloc (.cells #[.int .u8 0, .int .u8 0, .int .u8 0, .int .u8 0, .int .u8 0, .int .u8 0, .int .u8 0, .int .u8 0, .int .u8 0, .int .u8 0, .int .u8 0, .int .u8 0, .int .u8 0, .int .u8 0, .int .u8 0, .int .u8 0, .int .u8 0, .int .u8 0, .int .u8 0, .int .u8 0, .int .u8 0, .int .u8 0, .int .u8 0, .int .u8 0, .int .u8 0, .int .u8 0, .int .u8 0, .int .u8 0, .int .u8 0, .int .u8 0, .int .u8 0, .int .u8 0] 27)) ∧ Below w.heap.size w W ∧
      Blk W w.heap.size 27 (B8 zero32) ∧ Blk W (w.heap.size + 1) 27 (B8 zero32) ∧ Blk W (w.heap.size + 1 + 1) 27 (B8 zero32) := by
    refine ⟨_, rfl, (((Below.refl _ _).alloc (Nat.le_refl _) _).alloc (by simp) _).alloc (by simp; omega) _, ?_, ?_, ?_⟩
    · exact (Blk.new w #[.int .u8 0, .int .u8 0, .int .u8 0, .int .u8 0, .int .u8 0, .int .u8 0, .int .u8 0, .int .u8 0, .int .u8 0, .int .u8 0, .int .u8 0, .int .u8 0, .int .u8 0, .int .u8 0, .int .u8 0, .int .u8 0, .int .u8 0, .int .u8 0, .int .u8 0, .int .u8 0, .int .u8 0, .int .u8 0, .int .u8 0, .int .u8 0, .int .u8 0, .int .u8 0, .int .u8 0, .int .u8 0, .int .u8 0, .int .u8 0, .int .u8 0, .int .u8 0] 27).to (((Below.refl _ _).alloc (Nat.le_refl _) _).alloc (by simp) _)
    · have := (Blk.new (w.alloc (.cells #[.int .u8 0, .int .u8 0, .int .u8 0, .int .u8 0, .int .u8 0, .int .u8 0, .int .u8 0, .int .u8 0, .int .u8 0, .int .u8 0, .int .u8 0, .int .u8 0, .int .u8 0, .int .u8 0, .int .u8 0, .int .u8 0, .int .u8 0, .int .u8 0, .int .u8 0, .int .u8 0, .int .u8 0, .int .u8 0, .int .u8 0, .int .u8 0, .int .u8 0, .int .u8 0, .int .u8 0, .int .u8 0, .int .u8 0, .int .u8 0, .int .u8 0, .int .u8 0] 27)) #[.int .u8 0, .int .u8 0, .int .u8 0, .int .u8 0, .int .u8 0, .int .u8 0, .int .u8 0, .int .u8 0, .int .u8 0, .int .u8 0, .int .u8 0, .int .u8 0, .int .u8 0, .int .u8 0, .int .u8 0, .int .u8 0, .int .u8 0, .int .u8 0, .int .u8 0, .int .u8 0, .int .u8 0, .int .u8 0, .int .u8 0, .int .u8 0, .int .u8 0, .int .u8 0, .int .u8 0, .int .u8 0, .int .u8 0, .int .u8 0, .int .u8 0, .int .u8 0] 27).to ((Below.refl _ _).alloc (Nat.le_refl _) (.cells #[.int .u8 0, .int .u8 0, .int .u8 0, .int .u8 0, .int .u8 0, .int .u8 0, .int .u8 0, .int .u8 0, .int .u8 0, .int .u8 0, .int .u8 0, .int .u8 0, .int .u8 0, .int .u8 0, .int .u8 0, .int .u8 0, .int .u8 0, .int .u8 0, .int .u8 0, .int .u8 0, .int .u8 0, .int .u8 0, .int .u8 0, .int .u8 0, .int .u8 0, .int .u8 0, .int .u8 0, .int .u8 0, .int .u8 0, .int .u8 0, .int .u8 0, .int .u8 0] 27))
      rw [show (w.alloc (.cells #[.int .u8 0, .int .u8 0, .int .u8 0, .int .u8 0, .int .u8 0, .int .u8 0, .int .u8 0, .int .u8 0, .int .u8 0, .int .u8 0, .int .u8 0, .int .u8 0, .int .u8 0, .int .u8 0, .int .u8 0, .int .u8 0, .int .u8 0, .int .u8 0, .int .u8 0, .int .u8 0, .int .u8 0, .int .u8 0, .int .u8 0, .int .u8 0, .int .u8 0, .int .u8 0, .int .u8 0, .int .u8 0, .int .u8 0, .int .u8 0, .int .u8 0, .int .u8 0] 27)).heap.size = w.heap.size + 1 from by simp] at this
      exact this
    · have := Blk.new ((w.alloc (.cells #[.int .u8 0, .int .u8 0, .int .u8 0, .int .u8 0, .int .u8 0, .int .u8 0, .int .u8 0, .int .u8 0, .int .u8 0, .int .u8 0, .int .u8 0, .int .u8 0, .int .u8 0, .int .u8 0, .int .u8 0, .int .u8 0, .int .u8 0, .int .u8 0, .int .u8 0, .int .u8 0, .int .u8 0, .int .u8 0, .int .u8 0, .int .u8 0, .int .u8 0, .int .u8 0, .int .u8 0, .int .u8 0, .int .u8 0, .int .u8 0, .int .u8 0, .int .u8 0] 27)).alloc (.cells #[.int .u8 0, .int .u8 0, .int .u8 0, .int .u8 0, .int .u8 0, .int .u8 0, .int .u8 0, .int .u8 0, .int .u8 0, .int .u8 0, .int .u8 0, .int .u8 0, .int .u8 0, .int .u8 0, .int .u8 0, .int .u8 0, .int .u8 0, .int .u8 0, .int .u8 0, .int .u8 0, .int .u8 0, .int .u8 0, .int .u8 0, .int .u8 0, .int .u8 0, .int .u8 0, .int .u8 0, .int .u8 0, .int .u8 0, .int .u8 0, .int .u8 0, .int .u8 0] 27)) #[.int .u8 0, .int .u8 0, .int .u8 0, .int .u8 0, .int .u8 0, .int .u8 0, .int .u8 0, .int .u8 0, .int .u8 0, .int .u8 0, .int .u8 0, .int .u8 0, .int .u8 0, .int .u8 0, .int .u8 0, .int .u8 0, .int .u8 0, .int .u8 0, .int .u8 0, .int .u8 0, .int .u8 0, .int .u8 0, .int .u8 0, .int .u8 0, .int .u8 0, .int .u8 0, .int .u8 0, .int .u8 0, .int .u8 0, .int .u8 0, .int .u8 0, .int .u8 0] 27
      rw [show ((w.alloc (.cells #[.int .u8 0, .int .u8 0, .int .u8 0, .int .u8 0, .int .u8 0, .int .u8 0, .int .u8 0, .int .u8 0, .int .u8 0, .int .u8 0, .int .u8 0, .int .u8 0, .int .u8 0, .int .u8 0, .int .u8 0, .int .u8 0, .int .u8 0, .int .u8 0, .int .u8 0, .int .u8 0, .int .u8 0, .int .u8 0, .int .u8 0, .int .u8 0, .int .u8 0, .int .u8 0, .int .u8 0, .int .u8 0, .int .u8 0, .int .u8 0, .int .u8 0, .int .u8 0] 27)).alloc (.cells #[.int .u8 0, .int .u8 0, .int .u8 0, .int .u8 0, .int .u8 0, .int .u8 0, .int .u8 0, .int .u8 0, .int .u8 0, .int .u8 0, .int .u8 0, .int .u8 0, .int .u8 0, .int .u8 0, .int .u8 0, .int .u8 0, .int .u8 0, .int .u8 0, .int .u8 0, .int .u8 0, .int .u8 0, .int .u8 0, .int .u8 0, .int .u8 0, .int .u8 0, .int .u8 0, .int .u8 0, .int .u8 0, .int .u8 0, .int .u8 0, .int .u8 0, .int .u8 0] 27)).heap.size = w.heap.size + 1 + 1 from by simp] at this
      exact this
  have hz3 := z3.lt
  go_enter Try.func30, Try.ntmps30
  go_wp2_with (first
    | (refine wpl_build (by rfl) _ _ rfl _ HB1.out ?_)
    | (refine wpl_build (by rfl) _ _ rfl _ HB2.out ?_)
    | (refine wpl_build (by rfl) _ _ rfl _ HB3.out ?_)
    | (refine wpl_at HW.out ?_
       clear HW
       refine wpl_store_fld (by rfl) _ _ _ rfl w.heap.size 0 _ _ (B8 s1) rfl _ rfl rfl z1 (by rw [B8_len, HL1.out]; decide) (info_hash HL1.out) (B8_one _) ?_
       intro w1 b1 u1
       simp only [Act.put]
       rw [put_all _ _ (by rw [B8_len, HL1.out]; rfl)] at b1
       have z2' := z2.but u1 (by intro e; injection e; omega)
       have z3' := z3.but u1 (by intro e; injection e; omega)
       clear z1 z2 z3)
    | (refine wpl_store_fld (by rfl) _ _ _ rfl (w.heap.size + 1) 0 _ _ (B8 s2) rfl _ rfl rfl z2' (by rw [B8_len, HL2.out]; decide) (info_hash HL2.out) (B8_one _) ?_
       intro w2 b2 u2
       simp only [Act.put]
       rw [put_all _ _ (by rw [B8_len, HL2.out]; rfl)] at b2
       have b1' := b1.but u2 (by intro e; injection e; omega)
       have z3'' := z3'.but u2 (by intro e; injection e; omega)
       clear b1 z2' z3')
    | (refine wpl_store_fld (by rfl) _ _ _ rfl (w.heap.size + 1 + 1) 0 _ _ (B8 s3) rfl _ rfl rfl z3'' (by rw [B8_len, HL3.out]; decide) (info_hash HL3.out) (B8_one _) ?_
       intro w3 b3 u3
       simp only [Act.put]
       rw [put_all _ _ (by rw [B8_len, HL3.out]; rfl)] at b3
       have b1'' := b1'.but u3 (by intro e; injection e; omega)
       have b2'' := b2.but u3 (by intro e; injection e; omega)
       clear b1' b2 z3''))
  have f3 : Below w.heap.size w w3 := ((hbw.trans (below_but u1 (Nat.le_refl _) hbw.size)).trans (below_but u2 (by omega) (by have := u1.size; omega))).trans (below_but u3 (by omega) (by have := u1.size; have := u2.size; omega))
  have hz4 : w.heap.size + 1 + 1 < w3.heap.size := b3.lt
  clear u1 u2 u3 hbw hz3 HB1 HB2 HB3
  refine wp_region_C [(0, true), (1, true), (2, true), (5, true), (6, true), (8, true), (3, false), (4, false), (7, false), (9, false), (10, false), (11, false), (12, true), (13, false), (14, false), (15, false), (16, false)] RBel (by kernel_rfl) (by kernel_rfl) (by kernel_rfl) (by decide) RBel.refl_ RBel.trans_ (by intro d v c a w h; cases d <;> exact h) ?_
  have e1 : Blk w3.drew w.heap.size 27 (B8 s1) := b1''
  have e2 : Blk w3.drew (w.heap.size + 1) 27 (B8 s2) := b2''
  have e3 : Blk w3.drew (w.heap.size + 1 + 1) 27 (B8 s3) := b3
  have f4 : Below w.heap.size w w3.drew := f3.drew
  have hz5 : w.heap.size + 1 + 1 < w3.drew.heap.size := hz4
  clear b1'' b2'' b3 f3 hz4
  generalize w3.drew = V at *
  refine wpC_load rfl (by rfl) _ _ rfl w.heap.size 0 rfl (B8 s1) _ (fun w' hw' => (e1.to hw').range) Try.underlying27 rfl (info_hash HL1.out) ?_
  simp only [Act.put, List.setIfInBounds_toArray, List.set_cons_zero, List.set_cons_succ]
  refine wpC_load rfl (by rfl) _ _ rfl (w.heap.size + 1) 0 rfl (B8 s2) _ (fun w' hw' => (e2.to hw').range) Try.underlying27 rfl (info_hash HL2.out) ?_
  simp only [Act.put, List.setIfInBounds_toArray, List.set_cons_zero, List.set_cons_succ]
  refine wpC_load rfl (by rfl) _ _ rfl (w.heap.size + 1 + 1) 0 rfl (B8 s3) _ (fun w' hw' => (e3.to hw').range) Try.underlying27 rfl (info_hash HL3.out) ?_
  simp only [Act.put, List.setIfInBounds_toArray, List.set_cons_zero, List.set_cons_succ]
  refine wpC_load rfl (by rfl) _ _ rfl w.heap.size 0 rfl (B8 s1) _ (fun w' hw' => (e1.to hw').range) Try.underlying27 rfl (info_hash HL1.out) ?_
  simp only [Act.put, List.setIfInBounds_toArray, List.set_cons_zero, List.set_cons_succ]
  refine wpC_load rfl (by rfl) _ _ rfl (w.heap.size + 1) 0 rfl (B8 s2) _ (fun w' hw' => (e2.to hw').range) Try.underlying27 rfl (info_hash HL2.out) ?_
  simp only [Act.put, List.setIfInBounds_toArray, List.set_cons_zero, List.set_cons_succ]
  refine wpC_load rfl (by rfl) _ _ rfl (w.heap.size + 1 + 1) 0 rfl (B8 s3) _ (fun w' hw' => (e3.to hw').range) Try.underlying27 rfl (info_hash HL3.out) ?_
  simp only [Act.put, List.setIfInBounds_toArray, List.set_cons_zero, List.set_cons_succ]
  have HA : Hid (∀ x ∈ [s1, s2, s3], x.length = 32) := (show ∀ x ∈ [s1, s2, s3], x.length = 32 from by
    intro x hx
    simp only [List.mem_cons, List.not_mem_nil, or_false] at hx
    rcases hx with rfl | rfl | rfl
    · exact HL1.out
    · exact HL2.out
    · exact HL3.out)
  have h0 : Below V.heap.size V (V.alloc (.cells (H8 [s1, s2, s3]).toArray 27)) := (Below.refl _ _).alloc (Nat.le_refl _) _
  refine wpC_bs rfl (by rfl) _ _ rfl [s1, s2, s3] HA.out rfl (by decide) (by decide) (by simp [Act.eval]) h0 ?_
  simp only [Act.put, List.setIfInBounds_toArray, List.set_cons_zero, List.set_cons_succ]
  have sl := Sl.new32 V [s1, s2, s3] 27 HA.out
  have f5 := f4.trans (h0.mono f4.size)
  have b1 := e1.to h0
  clear e1 e2 e3 f4 h0
  have hlt1 := b1.lt
  generalize V.alloc (.cells (H8 [s1, s2, s3]).toArray 27) = V1 at *
  (refine wpC_loud rfl (by rfl) ?_; intro K hK; go_simp)
  refine (cmt_any _ 3 3 [s1, s2, s3] V1 (by omega) (by decide) (by decide) HA.out rfl sl).mono ?_
  rintro e w4 ⟨rfl, h4⟩
  rw [commit_three]
  unfold hv
  (refine hK.out _ _ (h4) ?_; clear hK K; try simp only [Act.put, List.setIfInBounds_toArray, List.set_cons_zero, List.set_cons_succ])
  (refine wpC_loud rfl (by rfl) ?_; intro K hK; go_simp)
  refine (refTwo_any s1 s2 HL1.out HL2.out w4).mono ?_
  rintro e w5 ⟨rfl, h5⟩
  unfold hv
  (refine hK.out _ _ (h5) ?_; clear hK K; try simp only [Act.put, List.setIfInBounds_toArray, List.set_cons_zero, List.set_cons_succ])
  (refine wpC_loud rfl (by rfl) ?_; intro K hK; go_simp)
  refine (refTwo_any (twoS s1 s2) s3 (twoS_len _ _) HL3.out w5).mono ?_
  rintro e w6 ⟨rfl, h6⟩
  unfold hv
  (refine hK.out _ _ (h6) ?_; clear hK K; try simp only [Act.put, List.setIfInBounds_toArray, List.set_cons_zero, List.set_cons_succ])
  have eq1 := eq_same (twoS (twoS s1 s2) s3) (twoS_len _ _)
  have b6 := ((b1.to h4).to h5).to h6
  have f6 := ((f5.trans (h4.mono f5.size)).trans (h5.mono (by have := f5.size; have := h4.size; omega))).trans (h6.mono (by have := f5.size; have := h4.size; have := h5.size; omega))
  clear b1 f5 h4 h5 h6 sl
  repeat (first | (refine wpC_quiet (v := ?_) rfl (by rfl) ?_ ?_; rotate_left; (· (intro w' hw'; go_simp; try with_reducible rfl)); simp only [Act.put, List.setIfInBounds_toArray, List.set_cons_zero, List.set_cons_succ]) | (refine wpC_val (v := ?_) (RBel.refl_) rfl (by rfl) ?_ ?_; rotate_left; (· (go_simp; try with_reducible rfl)); simp only [Act.put, List.setIfInBounds_toArray, List.set_cons_zero, List.set_cons_succ]) | (refine wpC_skip rfl (by rfl) ?_; simp only [Act.put, List.setIfInBounds_toArray, List.set_cons_zero, List.set_cons_succ]) | (refine wpC_skip' (RBel.refl_) rfl (by rfl) ?_; simp only [Act.put, List.setIfInBounds_toArray, List.set_cons_zero, List.set_cons_succ]))
  clear eq1
  refine wpC_load rfl (by rfl) _ _ rfl w.heap.size 0 rfl (B8 s1) _ (fun w' hw' => (b6.to hw').range) Try.underlying27 rfl (info_hash HL1.out) ?_
  simp only [Act.put, List.setIfInBounds_toArray, List.set_cons_zero, List.set_cons_succ]
  refine wpC_load_f RBel.refl_ rfl (by rfl) _ _ rfl w.heap.size 0 rfl (B8 s1) _ b6.range Try.underlying27 rfl (info_hash HL1.out) ?_
  simp only [Act.put, List.setIfInBounds_toArray, List.set_cons_zero, List.set_cons_succ]
  (refine wpC_loud rfl (by rfl) ?_; intro K hK; go_simp)
  refine (verify_any s1 s1 1 0 none 0 0 [] w6 HL1.out HL1.out (by intro x hx; cases hx) rfl Sl.nil_ (by decide) (by decide) (by decide) (by decide)).mono ?_
  rintro e w7 ⟨rfl, h7⟩
  rw [ver_one]
  (refine hK.out _ _ (h7) ?_; clear hK K; try simp only [Act.put, List.setIfInBounds_toArray, List.set_cons_zero, List.set_cons_succ])
  have f7 := f6.trans (h7.mono f6.size)
  repeat (first | (refine wpC_quiet (v := ?_) rfl (by rfl) ?_ ?_; rotate_left; (· (intro w' hw'; go_simp; try with_reducible rfl)); simp only [Act.put, List.setIfInBounds_toArray, List.set_cons_zero, List.set_cons_succ]) | (refine wpC_val (v := ?_) (RBel.refl_) rfl (by rfl) ?_ ?_; rotate_left; (· (go_simp; try with_reducible rfl)); simp only [Act.put, List.setIfInBounds_toArray, List.set_cons_zero, List.set_cons_succ]) | (refine wpC_skip rfl (by rfl) ?_; simp only [Act.put, List.setIfInBounds_toArray, List.set_cons_zero, List.set_cons_succ]) | (refine wpC_skip' (RBel.refl_) rfl (by rfl) ?_; simp only [Act.put, List.setIfInBounds_toArray, List.set_cons_zero, List.set_cons_succ]))
  refine wpC_nil ?_
  go_wp2_with fail
  go_ret
  exact ⟨rfl, f7⟩
end Go.Proofs.Ytakebmpnbdlcoaa
