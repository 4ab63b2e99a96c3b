/- The walk of capstanlaw12.TraceCommits. -/
import Derived.Test.YtakebmpnbdlcoaaTraceK
import Derived.Test.YtakebmpnbdlcoaaTraceZ
import Derived.Test.YtakebmpnbdlcoaaTraceT
set_option linter.unusedSimpArgs false
set_option linter.unusedVariables false
namespace Go.Proofs.Ytakebmpnbdlcoaa
open Go.RowKit
set_option maxRecDepth 100000
/-- a path, and whether there is none -/
def pathR (hs : List (List UInt8)) (i : Int) : List (List UInt8) × Int := if 0 ≤ i ∧ i < (hs.length : Int) then (pathS hs i.toNat, 0) else ([], 1)
/-- hands back a row of sums and a number -/
def RSe (w : World) (r : List (List UInt8) × Int) (en : Ending) (w' : World) : Prop := ∃ A c, en = .returned (.tuple #[.slice A r.1.length c, .int .i64 r.2]) ∧ Sl w' 32 A r.1.length (H8 r.1) ∧ Below w.heap.size w w'
theorem pathR_all {hs : List (List UInt8)} {i : Int} (hl : ∀ x ∈ hs, x.length = 32) : ∀ x ∈ (pathR hs i).1, x.length = 32 := by
  unfold pathR
  split
  · exact path_all hs.length hs _ (Nat.le_refl _) hl
  · intro x hx; cases hx
theorem pathR_len {hs : List (List UInt8)} {i : Int} (h : hs.length ≤ 1073741824) : (pathR hs i).1.length ≤ 30 := by
  unfold pathR
  split
  · exact path_len h
  · simp
theorem pathR_any (A : Option Addr) (n c : Nat) (hs : List (List UInt8)) (i : Int) (w : World) (hnc : n ≤ c) (hc : c ≤ maxLen) (hn : n ≤ 1073741824) (hl : ∀ x ∈ hs, x.length = 32) (hlen : hs.length = n) (sl : Sl w 32 A n (H8 hs)) :
    Calls Try.prog 31 #[.slice A n c, .int .i64 i] w (RSe w (pathR hs i)) := by
  unfold pathR
  by_cases h : 0 ≤ i ∧ i < (hs.length : Int)
  · rw [if_pos h]
    obtain ⟨k, rfl⟩ : ∃ k : Nat, i = (k : Int) := ⟨i.toNat, by omega⟩
    refine (path_any A n c hs k w hnc hc hn hl hlen sl (by omega)).mono ?_
    rintro e w' ⟨A', c', rfl, ho, hb⟩
    exact ⟨A', c', rfl, ho.sl, hb⟩
  · rw [if_neg h]
    refine (path_bad A n c i w (by omega)).mono ?_
    rintro e w' ⟨rfl, rfl⟩
    exact ⟨none, 0, rfl, Sl.nil_, Below.refl _ _⟩
theorem refPathR_any (A : Option Addr) (n c : Nat) (hs : List (List UInt8)) (i : Int) (w : World) (hnc : n ≤ c) (hc : c ≤ maxLen) (hn : n ≤ 1073741824) (hl : ∀ x ∈ hs, x.length = 32) (hlen : hs.length = n) (sl : Sl w 32 A n (H8 hs)) :
    Calls Try.prog 32 #[.slice A n c, .int .i64 i] w (RSe w (pathR hs i)) := by
  unfold pathR
  by_cases h : 0 ≤ i ∧ i < (hs.length : Int)
  · rw [if_pos h]
    obtain ⟨k, rfl⟩ : ∃ k : Nat, i = (k : Int) := ⟨i.toNat, by omega⟩
    refine (refPath_any n n k A c hs w (Nat.le_refl _) hnc hc hn hl hlen sl (by omega)).mono ?_
    rintro e w' ⟨A', c', rfl, ho, hb⟩
    exact ⟨A', c', rfl, ho.sl, hb⟩
  · rw [if_neg h]
    refine (refPath_bad A n c i w (by omega)).mono ?_
    rintro e w' ⟨rfl, rfl⟩
    exact ⟨none, 0, rfl, Sl.nil_, Below.refl _ _⟩
set_option maxRecDepth 100000 in
set_option maxHeartbeats 8000000 in
theorem traceCommits_walk (w : World) (A : Option Addr) (n c : Nat) (hs : List (List UInt8)) (hnc : n ≤ c) (hc : c ≤ maxLen) (hl : ∀ x ∈ hs, x.length = 32) (hlen : hs.length = n) (sl : Sl w 32 A n (H8 hs))
    (i : Int) (i1 : -9223372036854775808 ≤ i) (i2 : i < 9223372036854775808) (g0 : List UInt8) (hh : g0.length = 32)
    (A2 : Option Addr) (m c2 : Nat) (path : List (List UInt8)) (hmc : m ≤ c2) (hc2 : c2 ≤ maxLen) (pl : ∀ x ∈ path, x.length = 32) (plen : path.length = m) (sp : Sl w 32 A2 m (H8 path))
    (q : Int) (q1 : -9223372036854775808 ≤ q) (q2 : q < 9223372036854775808) :
    Calls Try.prog 10 #[.slice A n c, .int .i64 i, hv g0, .slice A2 m c2, .int .i64 q] w (RB true w) := by
  unfold hv
  obtain ⟨W, HW, hbw, bh⟩ : ∃ W, Hid (W = w.alloc (.cells (B8 g0).toArray 27)) ∧ Below w.heap.size w W ∧ Blk W w.heap.size 27 (B8 g0) := ⟨_, rfl, (Below.refl _ _).alloc (Nat.le_refl _) _, Blk.new w (B8 g0).toArray 27⟩
  have HL := Lib.hid hl
  have HLN := Lib.hid hlen
  have HPL := Lib.hid pl
  have HPN := Lib.hid plen
  have HH := Lib.hid hh
  have HC := Lib.hid hc
  have HC2 := Lib.hid hc2
  have hn63 : n ≤ 9223372036854775807 := by simp only [maxLen] at hc; omega
  have hm63 : m ≤ 9223372036854775807 := by simp only [maxLen] at hc2; omega
  clear hl hlen pl plen hh hc hc2
  go_enter Try.func10, Try.ntmps10
  go_upto_region 1 with fail
  refine wp_at HW.out ?_
  clear HW
  go_wp2_with fail
  refine (traceKnown_any W).mono ?_
  rintro e w1 ⟨rfl, h1⟩
  have f1 := hbw.trans (h1.mono hbw.size)
  by_cases h40 : (40 : Int) < n
  · go_wp2_with fail
    go_ret
    exact ⟨rfl, f1⟩
  by_cases h60 : (60 : Int) < m
  · go_wp2_with fail
    go_ret
    exact ⟨rfl, f1⟩
  have hn : n ≤ 40 := by omega
  have hm : m ≤ 60 := by omega
  have bh1 := bh.to h1
  have hl1 := bh1.lt
  clear bh hbw h1
  have HPA : ∀ i, Hid (∀ x ∈ (pathR hs i).1, x.length = 32) := fun i => pathR_all (i := i) HL.out
  have HPZ : ∀ i, Hid ((pathR hs i).1.length ≤ 30) := fun i => pathR_len (i := i) (by rw [HLN.out]; omega)
  go_wp2_with fail
  refine (pathR_any A n c hs i w1 hnc HC.out (by omega) HL.out HLN.out (sl.to f1)).mono ?_
  rintro e w2 ⟨A3, c3, rfl, s3, h2⟩
  have f2 := f1.trans (h2.mono f1.size)
  have bh2 := bh1.to h2
  have X1 := HPA i
  have Z1 := HPZ i
  clear h2 bh1 f1
  go_wp2_with fail
  refine (refPathR_any A n c hs i w2 hnc HC.out (by omega) HL.out HLN.out (sl.to f2)).mono ?_
  rintro e w3 ⟨A4, c4, rfl, s4, h3⟩
  have f3 := f2.trans (h3.mono f2.size)
  have bh3 := bh2.to h3
  have s3' := s3.to h3
  clear h3 bh2 f2 s3
  generalize pathR hs i = pr at *
  go_wp2_with fail
  all_goals
    refine (within_capstanlaw12 i _ w3 (by omega) (by omega) i1 i2).mono ?_
    rintro e w3' ⟨rfl, rfl⟩
    first
      | (obtain ⟨k, hk, hk0, hk1⟩ : ∃ k : Int, i % (n : Int) = k ∧ 0 ≤ k ∧ k < 100 := ⟨i % (n : Int), rfl, Int.emod_nonneg _ (by omega), by have := Int.emod_lt_of_pos i (show 0 < (n : Int) by omega); omega⟩
         rw [hk]
         clear hk)
      | (obtain ⟨k, hk, hk0, hk1⟩ : ∃ k : Int, i % 1 = k ∧ 0 ≤ k ∧ k < 100 := ⟨i % 1, rfl, by omega, by omega⟩
         rw [hk]
         clear hk)
    have X2 := HPA k
    have Z2 := HPZ k
    go_wp2_with fail
    refine (pathR_any A n c hs k w3 hnc HC.out (by omega) HL.out HLN.out (sl.to f3)).mono ?_
    rintro e w4 ⟨A5, c5, rfl, s5, h4⟩
    have f4 := f3.trans (h4.mono f3.size)
    have bh4 := bh3.to h4
    have s3a := s3'.to h4
    have s4a := s4.to h4
    clear h4 bh3 f3 s3' s4
    go_wp2_with fail
    refine (refPathR_any A n c hs k w4 hnc HC.out (by omega) HL.out HLN.out (sl.to f4)).mono ?_
    rintro e w5 ⟨A6, c6, rfl, s6, h5⟩
    have f5 := f4.trans (h5.mono f4.size)
    have bh5 := bh4.to h5
    have s3b := s3a.to h5
    have s4b := s4a.to h5
    have s5b := s5.to h5
    clear h5 bh4 f4 s3a s4a s5
    generalize pathR hs k = ps at *
    clear HPA HPZ
    go_wp2_with fail
    refine wp_region_C [(0, true), (2, true), (1, false), (3, false), (4, false), (5, false), (6, true), (7, false), (8, false), (9, false), (10, false), (11, true), (12, false), (13, false), (14, false), (15, false), (16, true), (17, false), (18, false), (19, false), (20, false), (21, true), (22, false), (23, false), (24, false), (25, false), (26, true), (27, true), (28, true), (29, true), (30, true), (32, true), (33, true), (34, true), (35, true), (36, true), (31, false), (37, false), (38, false), (39, false), (40, false), (41, true), (43, true), (44, true), (45, true), (46, true), (47, true), (49, true), (51, true), (52, true), (53, true), (54, true), (55, true), (42, false), (48, false), (50, false), (56, false), (57, false), (58, false), (59, false)] RBel (by kernel_rfl) (by kernel_rfl) (by kernel_rfl) (by decide) RBel.refl_ RBel.trans_ (by intro d v c a w h; cases d <;> exact h) ?_
    have BH : Blk w5.drew w.heap.size 27 (B8 g0) := bh5
    have F : Below w.heap.size w w5.drew := f5.drew
    have S3 := s3b.drew
    have S4 := s4b.drew
    have S5 := s5b.drew
    have S6 := s6.drew
    clear bh5 f5 s3b s4b s5b s6
    generalize w5.drew = V at *
    have HS := Lib.hid (commitS_len hs HL.out)
    obtain ⟨sm, hsm⟩ : ∃ sm, sm = commitS hs := ⟨_, rfl⟩
    rw [← hsm] at HS
    have HSM := Lib.hid hsm.symm
    clear hsm
    repeat (first | (refine wpC_quiet (v := ?_) rfl (by rfl) ?_ ?_; rotate_left; (· (intro w' hw'; go_simp; try with_reducible rfl)); simp only [Act.put, List.setIfInBounds_toArray, List.set_cons_zero, List.set_cons_succ]) | (refine wpC_val (v := ?_) (RBel.refl_) rfl (by rfl) ?_ ?_; rotate_left; (· (go_simp; try with_reducible rfl)); simp only [Act.put, List.setIfInBounds_toArray, List.set_cons_zero, List.set_cons_succ]) | (refine wpC_skip rfl (by rfl) ?_; simp only [Act.put, List.setIfInBounds_toArray, List.set_cons_zero, List.set_cons_succ]) | (refine wpC_skip' (RBel.refl_) rfl (by rfl) ?_; simp only [Act.put, List.setIfInBounds_toArray, List.set_cons_zero, List.set_cons_succ]))
    (refine wpC_loud rfl (by rfl) ?_; intro K hK; go_simp)
    refine (cmt_any A n c hs V hnc HC.out (by omega) HL.out HLN.out (sl.to F)).mono ?_
    rintro e V1 ⟨rfl, e1⟩
    rw [HSM.out]
    unfold hv
    (refine hK.out _ _ (e1) ?_; clear hK K; try simp only [Act.put, List.setIfInBounds_toArray, List.set_cons_zero, List.set_cons_succ])
    have F1 := F.trans (e1.mono F.size)
    (refine wpC_loud rfl (by rfl) ?_; intro K hK; go_simp)
    refine (refCommit_any n n A c hs V1 (Nat.le_refl _) hnc HC.out (by omega) HL.out HLN.out (sl.to F1)).mono ?_
    rintro e V2 ⟨rfl, e2⟩
    rw [HSM.out]
    unfold hv
    (refine hK.out _ _ (e2) ?_; clear hK K; try simp only [Act.put, List.setIfInBounds_toArray, List.set_cons_zero, List.set_cons_succ])
    have F2 := F1.trans (e2.mono F1.size)
    have eq1 := eq_same sm HS.out
    repeat (first | (refine wpC_quiet (v := ?_) rfl (by rfl) ?_ ?_; rotate_left; (· (intro w' hw'; go_simp; try with_reducible rfl)); simp only [Act.put, List.setIfInBounds_toArray, List.set_cons_zero, List.set_cons_succ]) | (refine wpC_val (v := ?_) (RBel.refl_) rfl (by rfl) ?_ ?_; rotate_left; (· (go_simp; try with_reducible rfl)); simp only [Act.put, List.setIfInBounds_toArray, List.set_cons_zero, List.set_cons_succ]) | (refine wpC_skip rfl (by rfl) ?_; simp only [Act.put, List.setIfInBounds_toArray, List.set_cons_zero, List.set_cons_succ]) | (refine wpC_skip' (RBel.refl_) rfl (by rfl) ?_; simp only [Act.put, List.setIfInBounds_toArray, List.set_cons_zero, List.set_cons_succ]))
    clear eq1
    (refine wpC_loud rfl (by rfl) ?_; intro K hK; go_simp)
    refine (same_any A3 A4 _ _ c3 c4 pr.1 pr.1 V2 X1.out X1.out rfl rfl (by have := Z1.out; omega) ((S3.to e1).to e2) ((S4.to e1).to e2) rfl).mono ?_
    rintro e V3 ⟨rfl, e3⟩
    (refine hK.out _ _ (e3) ?_; clear hK K; try simp only [Act.put, List.setIfInBounds_toArray, List.set_cons_zero, List.set_cons_succ])
    have F3 := F2.trans (e3.mono F2.size)
    repeat (first | (refine wpC_quiet (v := ?_) rfl (by rfl) ?_ ?_; rotate_left; (· (intro w' hw'; go_simp; try with_reducible rfl)); simp only [Act.put, List.setIfInBounds_toArray, List.set_cons_zero, List.set_cons_succ]) | (refine wpC_val (v := ?_) (RBel.refl_) rfl (by rfl) ?_ ?_; rotate_left; (· (go_simp; try with_reducible rfl)); simp only [Act.put, List.setIfInBounds_toArray, List.set_cons_zero, List.set_cons_succ]) | (refine wpC_skip rfl (by rfl) ?_; simp only [Act.put, List.setIfInBounds_toArray, List.set_cons_zero, List.set_cons_succ]) | (refine wpC_skip' (RBel.refl_) rfl (by rfl) ?_; simp only [Act.put, List.setIfInBounds_toArray, List.set_cons_zero, List.set_cons_succ]))
    (refine wpC_loud rfl (by rfl) ?_; intro K hK; go_simp)
    refine (same_any A5 A6 _ _ c5 c6 ps.1 ps.1 V3 X2.out X2.out rfl rfl (by have := Z2.out; omega) (((S5.to e1).to e2).to e3) (((S6.to e1).to e2).to e3) rfl).mono ?_
    rintro e V4 ⟨rfl, e4⟩
    (refine hK.out _ _ (e4) ?_; clear hK K; try simp only [Act.put, List.setIfInBounds_toArray, List.set_cons_zero, List.set_cons_succ])
    have F4 := F3.trans (e4.mono F3.size)
    have BH4 := (((BH.to e1).to e2).to e3).to e4
    have rb : ∀ w', RBel V4 w' → w'.rangeAt w.heap.size 0 (B8 g0) := fun w' hw' => (BH4.to hw').range
    clear BH S3 S4 S5 S6 e1 e2 e3 e4 F F1 F2 F3
    repeat (first | (refine wpC_quiet (v := ?_) rfl (by rfl) ?_ ?_; rotate_left; (· (intro w' hw'; go_simp; try with_reducible rfl)); simp only [Act.put, List.setIfInBounds_toArray, List.set_cons_zero, List.set_cons_succ]) | (refine wpC_val (v := ?_) (RBel.refl_) rfl (by rfl) ?_ ?_; rotate_left; (· (go_simp; try with_reducible rfl)); simp only [Act.put, List.setIfInBounds_toArray, List.set_cons_zero, List.set_cons_succ]) | (refine wpC_skip rfl (by rfl) ?_; simp only [Act.put, List.setIfInBounds_toArray, List.set_cons_zero, List.set_cons_succ]) | (refine wpC_skip' (RBel.refl_) rfl (by rfl) ?_; simp only [Act.put, List.setIfInBounds_toArray, List.set_cons_zero, List.set_cons_succ]))
    refine wpC_load rfl (by rfl) _ _ rfl w.heap.size 0 rfl (B8 g0) _ rb Try.underlying27 rfl (info_hash HH.out) ?_
    simp only [Act.put, List.setIfInBounds_toArray, List.set_cons_zero, List.set_cons_succ]
    repeat (first | (refine wpC_quiet (v := ?_) rfl (by rfl) ?_ ?_; rotate_left; (· (intro w' hw'; go_simp; try with_reducible rfl)); simp only [Act.put, List.setIfInBounds_toArray, List.set_cons_zero, List.set_cons_succ]) | (refine wpC_val (v := ?_) (RBel.refl_) rfl (by rfl) ?_ ?_; rotate_left; (· (go_simp; try with_reducible rfl)); simp only [Act.put, List.setIfInBounds_toArray, List.set_cons_zero, List.set_cons_succ]) | (refine wpC_skip rfl (by rfl) ?_; simp only [Act.put, List.setIfInBounds_toArray, List.set_cons_zero, List.set_cons_succ]) | (refine wpC_skip' (RBel.refl_) rfl (by rfl) ?_; simp only [Act.put, List.setIfInBounds_toArray, List.set_cons_zero, List.set_cons_succ]))
    refine wpC_load rfl (by rfl) _ _ rfl w.heap.size 0 rfl (B8 g0) _ rb Try.underlying27 rfl (info_hash HH.out) ?_
    simp only [Act.put, List.setIfInBounds_toArray, List.set_cons_zero, List.set_cons_succ]
    repeat (first | (refine wpC_quiet (v := ?_) rfl (by rfl) ?_ ?_; rotate_left; (· (intro w' hw'; go_simp; try with_reducible rfl)); simp only [Act.put, List.setIfInBounds_toArray, List.set_cons_zero, List.set_cons_succ]) | (refine wpC_val (v := ?_) (RBel.refl_) rfl (by rfl) ?_ ?_; rotate_left; (· (go_simp; try with_reducible rfl)); simp only [Act.put, List.setIfInBounds_toArray, List.set_cons_zero, List.set_cons_succ]) | (refine wpC_skip rfl (by rfl) ?_; simp only [Act.put, List.setIfInBounds_toArray, List.set_cons_zero, List.set_cons_succ]) | (refine wpC_skip' (RBel.refl_) rfl (by rfl) ?_; simp only [Act.put, List.setIfInBounds_toArray, List.set_cons_zero, List.set_cons_succ]))
    refine wpC_load rfl (by rfl) _ _ rfl w.heap.size 0 rfl (B8 g0) _ rb Try.underlying27 rfl (info_hash HH.out) ?_
    simp only [Act.put, List.setIfInBounds_toArray, List.set_cons_zero, List.set_cons_succ]
    repeat (first | (refine wpC_quiet (v := ?_) rfl (by rfl) ?_ ?_; rotate_left; (· (intro w' hw'; go_simp; try with_reducible rfl)); simp only [Act.put, List.setIfInBounds_toArray, List.set_cons_zero, List.set_cons_succ]) | (refine wpC_val (v := ?_) (RBel.refl_) rfl (by rfl) ?_ ?_; rotate_left; (· (go_simp; try with_reducible rfl)); simp only [Act.put, List.setIfInBounds_toArray, List.set_cons_zero, List.set_cons_succ]) | (refine wpC_skip rfl (by rfl) ?_; simp only [Act.put, List.setIfInBounds_toArray, List.set_cons_zero, List.set_cons_succ]) | (refine wpC_skip' (RBel.refl_) rfl (by rfl) ?_; simp only [Act.put, List.setIfInBounds_toArray, List.set_cons_zero, List.set_cons_succ]))
    refine wpC_load rfl (by rfl) _ _ rfl w.heap.size 0 rfl (B8 g0) _ rb Try.underlying27 rfl (info_hash HH.out) ?_
    simp only [Act.put, List.setIfInBounds_toArray, List.set_cons_zero, List.set_cons_succ]
    repeat (first | (refine wpC_quiet (v := ?_) rfl (by rfl) ?_ ?_; rotate_left; (· (intro w' hw'; go_simp; try with_reducible rfl)); simp only [Act.put, List.setIfInBounds_toArray, List.set_cons_zero, List.set_cons_succ]) | (refine wpC_val (v := ?_) (RBel.refl_) rfl (by rfl) ?_ ?_; rotate_left; (· (go_simp; try with_reducible rfl)); simp only [Act.put, List.setIfInBounds_toArray, List.set_cons_zero, List.set_cons_succ]) | (refine wpC_skip rfl (by rfl) ?_; simp only [Act.put, List.setIfInBounds_toArray, List.set_cons_zero, List.set_cons_succ]) | (refine wpC_skip' (RBel.refl_) rfl (by rfl) ?_; simp only [Act.put, List.setIfInBounds_toArray, List.set_cons_zero, List.set_cons_succ]))
    obtain ⟨vb, hvb⟩ : ∃ vb, vb = verS g0 q i g0 path := ⟨_, rfl⟩
    (refine wpC_loud rfl (by rfl) ?_; intro K hK; go_simp)
    refine (verify_any g0 g0 q i A2 m c2 path V4 HH.out HH.out HPL.out HPN.out (sp.to F4) q1 q2 i1 i2).mono ?_
    rintro e V5 ⟨rfl, e5⟩
    rw [← hvb]
    (refine hK.out _ _ (e5) ?_; clear hK K; try simp only [Act.put, List.setIfInBounds_toArray, List.set_cons_zero, List.set_cons_succ])
    have F5 := F4.trans (e5.mono F4.size)
    (refine wpC_loud rfl (by rfl) ?_; intro K hK; go_simp)
    refine (refVerify_any g0 g0 q i A2 m c2 path V5 HH.out HH.out HPL.out HPN.out hmc HC2.out (sp.to F5) q1 q2 i1 i2).mono ?_
    rintro e V6 ⟨rfl, e6⟩
    rw [← hvb]
    clear hvb rb
    (refine hK.out _ _ (e6) ?_; clear hK K; try simp only [Act.put, List.setIfInBounds_toArray, List.set_cons_zero, List.set_cons_succ])
    have F6 := F5.trans (e6.mono F5.size)
    have rb : ∀ w', RBel V6 w' → w'.rangeAt w.heap.size 0 (B8 g0) := fun w' hw' => (((BH4.to e5).to e6).to hw').range
    clear e5 e6 BH4 F5
    repeat (first | (refine wpC_quiet (v := ?_) rfl (by rfl) ?_ ?_; rotate_left; (· (intro w' hw'; go_simp; try with_reducible rfl)); simp only [Act.put, List.setIfInBounds_toArray, List.set_cons_zero, List.set_cons_succ]) | (refine wpC_val (v := ?_) (RBel.refl_) rfl (by rfl) ?_ ?_; rotate_left; (· (go_simp; try with_reducible rfl)); simp only [Act.put, List.setIfInBounds_toArray, List.set_cons_zero, List.set_cons_succ]) | (refine wpC_skip rfl (by rfl) ?_; simp only [Act.put, List.setIfInBounds_toArray, List.set_cons_zero, List.set_cons_succ]) | (refine wpC_skip' (RBel.refl_) rfl (by rfl) ?_; simp only [Act.put, List.setIfInBounds_toArray, List.set_cons_zero, List.set_cons_succ]))
    refine wpC_load rfl (by rfl) _ _ rfl w.heap.size 0 rfl (B8 g0) _ rb Try.underlying27 rfl (info_hash HH.out) ?_
    simp only [Act.put, List.setIfInBounds_toArray, List.set_cons_zero, List.set_cons_succ]
    repeat (first | (refine wpC_quiet (v := ?_) rfl (by rfl) ?_ ?_; rotate_left; (· (intro w' hw'; go_simp; try with_reducible rfl)); simp only [Act.put, List.setIfInBounds_toArray, List.set_cons_zero, List.set_cons_succ]) | (refine wpC_val (v := ?_) (RBel.refl_) rfl (by rfl) ?_ ?_; rotate_left; (· (go_simp; try with_reducible rfl)); simp only [Act.put, List.setIfInBounds_toArray, List.set_cons_zero, List.set_cons_succ]) | (refine wpC_skip rfl (by rfl) ?_; simp only [Act.put, List.setIfInBounds_toArray, List.set_cons_zero, List.set_cons_succ]) | (refine wpC_skip' (RBel.refl_) rfl (by rfl) ?_; simp only [Act.put, List.setIfInBounds_toArray, List.set_cons_zero, List.set_cons_succ]))
    refine wpC_load rfl (by rfl) _ _ rfl w.heap.size 0 rfl (B8 g0) _ rb Try.underlying27 rfl (info_hash HH.out) ?_
    simp only [Act.put, List.setIfInBounds_toArray, List.set_cons_zero, List.set_cons_succ]
    repeat (first | (refine wpC_quiet (v := ?_) rfl (by rfl) ?_ ?_; rotate_left; (· (intro w' hw'; go_simp; try with_reducible rfl)); simp only [Act.put, List.setIfInBounds_toArray, List.set_cons_zero, List.set_cons_succ]) | (refine wpC_val (v := ?_) (RBel.refl_) rfl (by rfl) ?_ ?_; rotate_left; (· (go_simp; try with_reducible rfl)); simp only [Act.put, List.setIfInBounds_toArray, List.set_cons_zero, List.set_cons_succ]) | (refine wpC_skip rfl (by rfl) ?_; simp only [Act.put, List.setIfInBounds_toArray, List.set_cons_zero, List.set_cons_succ]) | (refine wpC_skip' (RBel.refl_) rfl (by rfl) ?_; simp only [Act.put, List.setIfInBounds_toArray, List.set_cons_zero, List.set_cons_succ]))
    clear rb
    obtain ⟨vb, hvb⟩ : ∃ vb, vb = verS sm (n : Int) k g0 path := ⟨_, rfl⟩
    (refine wpC_loud rfl (by rfl) ?_; intro K hK; go_simp)
    refine (cmt_any A n c hs V6 hnc HC.out (by omega) HL.out HLN.out (sl.to F6)).mono ?_
    rintro e V7 ⟨rfl, e7⟩
    rw [HSM.out]
    unfold hv
    (refine hK.out _ _ (e7) ?_; clear hK K; try simp only [Act.put, List.setIfInBounds_toArray, List.set_cons_zero, List.set_cons_succ])
    have F7 := F6.trans (e7.mono F6.size)
    repeat (first | (refine wpC_quiet (v := ?_) rfl (by rfl) ?_ ?_; rotate_left; (· (intro w' hw'; go_simp; try with_reducible rfl)); simp only [Act.put, List.setIfInBounds_toArray, List.set_cons_zero, List.set_cons_succ]) | (refine wpC_val (v := ?_) (RBel.refl_) rfl (by rfl) ?_ ?_; rotate_left; (· (go_simp; try with_reducible rfl)); simp only [Act.put, List.setIfInBounds_toArray, List.set_cons_zero, List.set_cons_succ]) | (refine wpC_skip rfl (by rfl) ?_; simp only [Act.put, List.setIfInBounds_toArray, List.set_cons_zero, List.set_cons_succ]) | (refine wpC_skip' (RBel.refl_) rfl (by rfl) ?_; simp only [Act.put, List.setIfInBounds_toArray, List.set_cons_zero, List.set_cons_succ]))
    (refine wpC_loud rfl (by rfl) ?_; intro K hK; go_simp)
    refine (verify_any sm g0 (n : Int) k A2 m c2 path V7 HS.out HH.out HPL.out HPN.out (sp.to F7) (by omega) (by omega) (by omega) (by omega)).mono ?_
    rintro e V8 ⟨rfl, e8⟩
    rw [← hvb]
    (refine hK.out _ _ (e8) ?_; clear hK K; try simp only [Act.put, List.setIfInBounds_toArray, List.set_cons_zero, List.set_cons_succ])
    have F8 := F7.trans (e8.mono F7.size)
    repeat (first | (refine wpC_quiet (v := ?_) rfl (by rfl) ?_ ?_; rotate_left; (· (intro w' hw'; go_simp; try with_reducible rfl)); simp only [Act.put, List.setIfInBounds_toArray, List.set_cons_zero, List.set_cons_succ]) | (refine wpC_val (v := ?_) (RBel.refl_) rfl (by rfl) ?_ ?_; rotate_left; (· (go_simp; try with_reducible rfl)); simp only [Act.put, List.setIfInBounds_toArray, List.set_cons_zero, List.set_cons_succ]) | (refine wpC_skip rfl (by rfl) ?_; simp only [Act.put, List.setIfInBounds_toArray, List.set_cons_zero, List.set_cons_succ]) | (refine wpC_skip' (RBel.refl_) rfl (by rfl) ?_; simp only [Act.put, List.setIfInBounds_toArray, List.set_cons_zero, List.set_cons_succ]))
    (refine wpC_loud rfl (by rfl) ?_; intro K hK; go_simp)
    refine (refCommit_any n n A c hs V8 (Nat.le_refl _) hnc HC.out (by omega) HL.out HLN.out (sl.to F8)).mono ?_
    rintro e V9 ⟨rfl, e9⟩
    rw [HSM.out]
    unfold hv
    (refine hK.out _ _ (e9) ?_; clear hK K; try simp only [Act.put, List.setIfInBounds_toArray, List.set_cons_zero, List.set_cons_succ])
    have F9 := F8.trans (e9.mono F8.size)
    repeat (first | (refine wpC_quiet (v := ?_) rfl (by rfl) ?_ ?_; rotate_left; (· (intro w' hw'; go_simp; try with_reducible rfl)); simp only [Act.put, List.setIfInBounds_toArray, List.set_cons_zero, List.set_cons_succ]) | (refine wpC_val (v := ?_) (RBel.refl_) rfl (by rfl) ?_ ?_; rotate_left; (· (go_simp; try with_reducible rfl)); simp only [Act.put, List.setIfInBounds_toArray, List.set_cons_zero, List.set_cons_succ]) | (refine wpC_skip rfl (by rfl) ?_; simp only [Act.put, List.setIfInBounds_toArray, List.set_cons_zero, List.set_cons_succ]) | (refine wpC_skip' (RBel.refl_) rfl (by rfl) ?_; simp only [Act.put, List.setIfInBounds_toArray, List.set_cons_zero, List.set_cons_succ]))
    (refine wpC_loud rfl (by rfl) ?_; intro K hK; go_simp)
    refine (refVerify_any sm g0 (n : Int) k A2 m c2 path V9 HS.out HH.out HPL.out HPN.out hmc HC2.out (sp.to F9) (by omega) (by omega) (by omega) (by omega)).mono ?_
    rintro e V10 ⟨rfl, e10⟩
    rw [← hvb]
    clear hvb
    (refine hK.out _ _ (e10) ?_; clear hK K; try simp only [Act.put, List.setIfInBounds_toArray, List.set_cons_zero, List.set_cons_succ])
    have F10 := F9.trans (e10.mono F9.size)
    repeat (first | (refine wpC_quiet (v := ?_) rfl (by rfl) ?_ ?_; rotate_left; (· (intro w' hw'; go_simp; try with_reducible rfl)); simp only [Act.put, List.setIfInBounds_toArray, List.set_cons_zero, List.set_cons_succ]) | (refine wpC_val (v := ?_) (RBel.refl_) rfl (by rfl) ?_ ?_; rotate_left; (· (go_simp; try with_reducible rfl)); simp only [Act.put, List.setIfInBounds_toArray, List.set_cons_zero, List.set_cons_succ]) | (refine wpC_skip rfl (by rfl) ?_; simp only [Act.put, List.setIfInBounds_toArray, List.set_cons_zero, List.set_cons_succ]) | (refine wpC_skip' (RBel.refl_) rfl (by rfl) ?_; simp only [Act.put, List.setIfInBounds_toArray, List.set_cons_zero, List.set_cons_succ]))
    refine wpC_nil ?_
    go_wp2_with fail
    go_ret
    exact ⟨rfl, F10⟩
end Go.Proofs.Ytakebmpnbdlcoaa
