/- The walk of capstanlaw12.TraceProves, part B: its two places are two. -/
import Derived.Test.YtakebmpnbdlcoaaProvesL
set_option linter.unusedSimpArgs false
set_option linter.unusedVariables false
namespace Go.Proofs.Ytakebmpnbdlcoaa
open Go.RowKit
set_option maxRecDepth 100000
set_option maxRecDepth 100000 in
set_option maxHeartbeats 16000000 in
theorem traceProves_other (w : World) (a : Int) (a_lo : -9223372036854775808 ≤ a) (a_hi : a < 9223372036854775808) (b : Int) (b_lo : -9223372036854775808 ≤ b) (b_hi : b < 9223372036854775808) (d : Int) (d_lo : -9223372036854775808 ≤ d) (d_hi : d < 9223372036854775808) (t : Int) (t_lo : -9223372036854775808 ≤ t) (t_hi : t < 9223372036854775808) (hh : ¬ b % (1 + a % 40) = d % (1 + a % 40)) :
    Calls Try.prog 11 #[.int .i64 a, .int .i64 b, .int .i64 d, .int .i64 t] w (RB true w) := by
  go_enter Try.func11, Try.ntmps11
  go_wp2_with fail
  refine (traceKnown_any w).mono ?_
  rintro e w1 ⟨rfl, h1⟩
  go_wp2_with fail
  refine (within_capstanlaw12 a 40 w1 (by omega) (by omega) a_lo a_hi).mono ?_
  rintro e w1' ⟨rfl, rfl⟩
  obtain ⟨n, hn⟩ : ∃ n : Nat, 1 + a % 40 = (n : Int) := ⟨(1 + a % 40).toNat, by omega⟩
  have hn1 : 1 ≤ n := by omega
  have hn2 : n ≤ 40 := by omega
  go_wp2_with fail
  refine (within_capstanlaw12 b (n : Int) w1 (by omega) (by omega) b_lo b_hi).mono ?_
  rintro e w1' ⟨rfl, rfl⟩
  obtain ⟨i, hi⟩ : ∃ i : Nat, b % (n : Int) = (i : Int) := ⟨(b % (n : Int)).toNat, by have := Int.emod_nonneg b (show (n : Int) ≠ 0 by omega); omega⟩
  have hin : i < n := by have := Int.emod_lt_of_pos b (show 0 < (n : Int) by omega); omega
  rw [hi]
  go_wp2_with fail
  refine (within_capstanlaw12 d (n : Int) w1 (by omega) (by omega) d_lo d_hi).mono ?_
  rintro e w1' ⟨rfl, rfl⟩
  obtain ⟨j, hj⟩ : ∃ j : Nat, d % (n : Int) = (j : Int) := ⟨(d % (n : Int)).toNat, by have := Int.emod_nonneg d (show (n : Int) ≠ 0 by omega); omega⟩
  have hjn : j < n := by have := Int.emod_lt_of_pos d (show 0 < (n : Int) by omega); omega
  have hij : ¬ i = j := by
    rw [hn, hi, hj] at hh
    omega
  have HIJ := Lib.hid hij
  rw [hj]
  clear hn hi hj hh hij a_lo a_hi b_lo b_hi d_lo d_hi
  have HHL := Lib.hid (hashL_len n)
  have HHA := Lib.hid (hashL_all n)
  go_wp2_with fail
  refine (hashes_any n w1 (by omega)).mono ?_
  rintro e w2 ⟨A2, c2, rfl, ho2, h2⟩
  have hle2 := ho2.le
  have f2 := h1.trans (h2.mono h1.size)
  obtain ⟨g, rest, rfl, hg, bk, hrl⟩ := own_row ho2 (by omega)
  have sl2 := ho2.sl
  clear h2 hrl bk ho2 h1 hg rest
  generalize hashL n = L at *
  go_wp2_with fail
  refine (cmt_any _ n c2 L w2 hle2.1 hle2.2 (by omega) HHA.out HHL.out sl2).mono ?_
  rintro e w3 ⟨rfl, h3⟩
  have HCM := Lib.hid (commitS_len L HHA.out)
  obtain ⟨li, hli⟩ : ∃ x, L[i]? = some x := ⟨_, List.getElem?_eq_getElem (by rw [HHL.out]; omega)⟩
  obtain ⟨lj, hlj⟩ : ∃ x, L[j]? = some x := ⟨_, List.getElem?_eq_getElem (by rw [HHL.out]; omega)⟩
  obtain ⟨l0, hl0⟩ : ∃ x, L[0]? = some x := ⟨_, List.getElem?_eq_getElem (by rw [HHL.out]; omega)⟩
  have VT := Lib.hid (ver_true HHL.out (by omega) hli)
  have VTJ : i = j → Hid (lj = li) := fun e => (show _ = _ by subst e; rw [hli] at hlj; injection hlj with h; exact h.symm)
  have PN := Lib.hid (pathNone (i := i) HHL.out hn1)
  have PSD := Lib.hid (path_sides L.length L i (Nat.le_refl _))
  rw [HHL.out] at PSD
  have PA := Lib.hid (path_all L.length L i (Nat.le_refl _) HHA.out)
  have PL := Lib.hid (path_len (hs := L) (i := i) (by rw [HHL.out]; omega))
  have C1 : n = 1 → Hid (commitS L = l0) := fun e => (show _ = _ by
    obtain ⟨z, rfl⟩ : ∃ z, L = [z] := List.length_eq_one_iff.1 (by rw [HHL.out, e])
    simp at hl0
    rw [commitS_one, hl0])
  have HI := Lib.hid (HHA.out li (List.mem_of_getElem? hli))
  have HJ := Lib.hid (HHA.out lj (List.mem_of_getElem? hlj))
  have H0 := Lib.hid (HHA.out l0 (List.mem_of_getElem? hl0))
  have HLI := Lib.hid hli
  have HLJ := Lib.hid hlj
  have HL0 := Lib.hid hl0
  clear hli hlj hl0
  generalize commitS L = cm at *
  have f3 := f2.trans (h3.mono f2.size)
  have sl3 := sl2.to h3
  clear h3 f2 sl2
  unfold hv
  go_wp2_with (first
    | (refine wpl_store_new rfl _ _ _ rfl 27 _ (B8 cm) rfl rfl (by rw [B8_len, HCM.out]; rfl) (info_hash HCM.out) (B8_one _) ?_
       intro w4 b4 h4
       have sl4 := sl3.to h4
       have f4 := f3.trans (h4.mono f3.size)
       clear h4
       simp only [Act.put]))
  obtain ⟨pR, hpR⟩ : ∃ p, p = w3.heap.size := ⟨_, rfl⟩
  rw [← hpR] at b4 ⊢
  clear hpR f3 sl3
  refine (path_any _ n c2 L i w4 hle2.1 hle2.2 (by omega) HHA.out HHL.out sl4 hin).mono ?_
  rintro e w5 ⟨A3, c3, rfl, ho5, h5⟩
  have sp5 := ho5.sl
  have hlp := ho5.le
  have b5 := b4.to h5
  have sl5 := sl4.to h5
  have f5 := f4.trans (h5.mono f4.size)
  clear h5 f4 sl4 b4 ho5
  generalize pathS L i = p at *
  obtain ⟨m, hm⟩ : ∃ m, m = p.length := ⟨_, rfl⟩
  rw [← hm] at PN PSD PL sp5 hlp ⊢
  have HMP := Lib.hid hm.symm
  clear hm
  have hm30 : m ≤ 30 := PL.out
  have ti : (i : Int) < (n : Int) := by omega
  have tj : (j : Int) < (n : Int) := by omega
  have t0 : (0 : Int) < (n : Int) := by omega
  have t0n : 0 < n := by omega
  have hc63 : c3 ≤ 9223372036854775807 := by have := hlp.2; simp only [maxLen] at this; omega
  have LR : ∀ {V w' : World}, Blk V pR 27 (B8 cm) → RBel V w' → w'.rangeAt pR 0 (B8 cm) := fun h hw' => (h.to hw').range
  have LI : ∀ {V w' : World}, Sl V 32 (some ⟨g, 0, none⟩) n (H8 L) → RBel V w' → w'.rangeAt g (i * 32) (B8 li) := fun h hw' => by
    have := (h.to hw').range32 HHA.out i li HLI.out
    rwa [Nat.zero_add] at this
  have LJ : ∀ {V w' : World}, Sl V 32 (some ⟨g, 0, none⟩) n (H8 L) → RBel V w' → w'.rangeAt g (j * 32) (B8 lj) := fun h hw' => by
    have := (h.to hw').range32 HHA.out j lj HLJ.out
    rwa [Nat.zero_add] at this
  have LO : ∀ {V w' : World}, Sl V 32 (some ⟨g, 0, none⟩) n (H8 L) → RBel V w' → w'.rangeAt g 0 (B8 l0) := fun h hw' => by
    have := (h.to hw').range32 HHA.out 0 l0 HL0.out
    simpa using this
  have LR2 : ∀ {B : Nat} {V w' : World}, Blk V pR 27 (B8 cm) → Below B V w' → pR < B → w'.rangeAt pR 0 (B8 cm) := fun h hw' hB => (h.below hw' hB).range
  have LI2 : ∀ {B : Nat} {V w' : World}, Sl V 32 (some ⟨g, 0, none⟩) n (H8 L) → Below B V w' → g < B → w'.rangeAt g (i * 32) (B8 li) := fun h hw' hB => by
    have := (h.bel2 hw' hB).range32 HHA.out i li HLI.out
    rwa [Nat.zero_add] at this
  have LJ2 : ∀ {B : Nat} {V w' : World}, Sl V 32 (some ⟨g, 0, none⟩) n (H8 L) → Below B V w' → g < B → w'.rangeAt g (j * 32) (B8 lj) := fun h hw' hB => by
    have := (h.bel2 hw' hB).range32 HHA.out j lj HLJ.out
    rwa [Nat.zero_add] at this
  have LO2 : ∀ {B : Nat} {V w' : World}, Sl V 32 (some ⟨g, 0, none⟩) n (H8 L) → Below B V w' → g < B → w'.rangeAt g 0 (B8 l0) := fun h hw' hB => by
    have := (h.bel2 hw' hB).range32 HHA.out 0 l0 HL0.out
    simpa using this
  have VLONG : Hid (verS cm (n : Int) (i : Int) li (p ++ [l0]) = false) := ver_long (by rw [List.length_append, HMP.out, ← PSD.out]; simp)
  have VSHORT : m ≠ 0 → Hid (verS cm (n : Int) (i : Int) li (p.take (m - 1)) = false) := fun h => ver_long (by rw [List.length_take, HMP.out, ← PSD.out]; omega)
  have PA2 : Hid (∀ x ∈ p ++ [l0], x.length = 32) := (show ∀ x ∈ p ++ [l0], x.length = 32 from by
    intro x hx
    rcases List.mem_append.1 hx with h | h
    · exact PA.out x h
    · simp at h; rw [h]; exact H0.out)
  have HMP2 : Hid ((p ++ [l0]).length = m + 1) := (show _ = _ by rw [List.length_append, HMP.out]; rfl)
  have HA0 : Hid (∀ x ∈ [l0], x.length = 32) := (show ∀ x ∈ [l0], x.length = 32 from by intro x hx; simp at hx; rw [hx]; exact H0.out)
  go_wp2_with fail
  refine wp_region_C [(0, false), (1, false), (2, false), (3, true), (4, true), (5, true), (6, true), (7, true), (8, true), (9, true), (10, false), (11, false), (12, false), (13, false)] RBel (by kernel_rfl) (by kernel_rfl) (by kernel_rfl) (by decide) RBel.refl_ RBel.trans_ (by intro d v c a w h; cases d <;> exact h) ?_
  have BV : Blk w5.drew pR 27 (B8 cm) := b5
  have FV : Below w.heap.size w w5.drew := f5.drew
  have SV := sl5.drew
  have PV := sp5.drew
  clear b5 f5 sl5 sp5
  generalize w5.drew = V8 at *
  repeat (first | (refine wpC_quiet (v := ?_) rfl (by rfl) ?_ ?_; rotate_left; (· (intro w' hw'; go_simp; try with_reducible rfl)); simp only [Act.put, List.setIfInBounds_toArray, List.set_cons_zero, List.set_cons_succ]) | (refine wpC_val (v := ?_) (RBel.refl_) rfl (by rfl) ?_ ?_; rotate_left; (· (go_simp; try with_reducible rfl)); simp only [Act.put, List.setIfInBounds_toArray, List.set_cons_zero, List.set_cons_succ]) | (refine wpC_skip rfl (by rfl) ?_; simp only [Act.put, List.setIfInBounds_toArray, List.set_cons_zero, List.set_cons_succ]) | (refine wpC_skip' (RBel.refl_) rfl (by rfl) ?_; simp only [Act.put, List.setIfInBounds_toArray, List.set_cons_zero, List.set_cons_succ]))
  refine wpC_load rfl (by rfl) _ _ rfl pR 0 rfl (B8 cm) _ (fun w' hw' => LR BV hw') Try.underlying27 rfl (info_hash HCM.out) ?_
  simp only [Act.put, List.setIfInBounds_toArray, List.set_cons_zero, List.set_cons_succ]
  repeat (first | (refine wpC_quiet (v := ?_) rfl (by rfl) ?_ ?_; rotate_left; (· (intro w' hw'; go_simp; try with_reducible rfl)); simp only [Act.put, List.setIfInBounds_toArray, List.set_cons_zero, List.set_cons_succ]) | (refine wpC_val (v := ?_) (RBel.refl_) rfl (by rfl) ?_ ?_; rotate_left; (· (go_simp; try with_reducible rfl)); simp only [Act.put, List.setIfInBounds_toArray, List.set_cons_zero, List.set_cons_succ]) | (refine wpC_skip rfl (by rfl) ?_; simp only [Act.put, List.setIfInBounds_toArray, List.set_cons_zero, List.set_cons_succ]) | (refine wpC_skip' (RBel.refl_) rfl (by rfl) ?_; simp only [Act.put, List.setIfInBounds_toArray, List.set_cons_zero, List.set_cons_succ]))
  refine wpC_load rfl (by rfl) _ _ rfl g (i * 32) rfl (B8 li) _ (fun w' hw' => LI SV hw') Try.underlying27 rfl (info_hash HI.out) ?_
  simp only [Act.put, List.setIfInBounds_toArray, List.set_cons_zero, List.set_cons_succ]
  repeat (first | (refine wpC_quiet (v := ?_) rfl (by rfl) ?_ ?_; rotate_left; (· (intro w' hw'; go_simp; try with_reducible rfl)); simp only [Act.put, List.setIfInBounds_toArray, List.set_cons_zero, List.set_cons_succ]) | (refine wpC_val (v := ?_) (RBel.refl_) rfl (by rfl) ?_ ?_; rotate_left; (· (go_simp; try with_reducible rfl)); simp only [Act.put, List.setIfInBounds_toArray, List.set_cons_zero, List.set_cons_succ]) | (refine wpC_skip rfl (by rfl) ?_; simp only [Act.put, List.setIfInBounds_toArray, List.set_cons_zero, List.set_cons_succ]) | (refine wpC_skip' (RBel.refl_) rfl (by rfl) ?_; simp only [Act.put, List.setIfInBounds_toArray, List.set_cons_zero, List.set_cons_succ]))
  (refine wpC_loud rfl (by rfl) ?_; intro K hK; go_simp)
  refine (verify_any cm li (n : Int) (i : Int) A3 m c3 p V8 HCM.out HI.out PA.out HMP.out (PV) (by omega) (by omega) (by omega) (by omega)).mono ?_
  rintro e V9 ⟨rfl, hV⟩
  rw [VT.out]
  (refine hK.out _ _ (hV) ?_; clear hK K; try simp only [Act.put, List.setIfInBounds_toArray, List.set_cons_zero, List.set_cons_succ])
  replace FV := FV.trans (hV.mono FV.size)
  replace BV := BV.to hV
  replace SV := SV.to hV
  replace PV := PV.to hV
  clear hV
  repeat (first | (refine wpC_quiet (v := ?_) rfl (by rfl) ?_ ?_; rotate_left; (· (intro w' hw'; go_simp; try with_reducible rfl)); simp only [Act.put, List.setIfInBounds_toArray, List.set_cons_zero, List.set_cons_succ]) | (refine wpC_val (v := ?_) (RBel.refl_) rfl (by rfl) ?_ ?_; rotate_left; (· (go_simp; try with_reducible rfl)); simp only [Act.put, List.setIfInBounds_toArray, List.set_cons_zero, List.set_cons_succ]) | (refine wpC_skip rfl (by rfl) ?_; simp only [Act.put, List.setIfInBounds_toArray, List.set_cons_zero, List.set_cons_succ]) | (refine wpC_skip' (RBel.refl_) rfl (by rfl) ?_; simp only [Act.put, List.setIfInBounds_toArray, List.set_cons_zero, List.set_cons_succ]))
  refine wpC_nil ?_
  go_wp2_with fail
  obtain ⟨v1, hv1⟩ : ∃ v1, v1 = verS cm (n : Int) (j : Int) li p := ⟨_, rfl⟩
  obtain ⟨v2, hv2⟩ : ∃ v2, v2 = verS cm (n : Int) (i : Int) lj p := ⟨_, rfl⟩
  have hvt : i = j → v1 = true ∧ v2 = true := by
    intro e
    have e2 := (VTJ e).out
    subst e
    rw [e2] at hv2
    exact ⟨by rw [hv1]; exact VT.out, by rw [hv2]; exact VT.out⟩
  have HV1 := Lib.hid hv1.symm
  have HV2 := Lib.hid hv2.symm
  have HVT := Lib.hid hvt
  clear hv1 hv2 hvt
  have hij := HIJ.out
  clear HIJ
  cases v1
  · cases v2
    · have t9 : ¬ (i : Int) = (j : Int) := by omega
      have t10 : ((i : Int) == (j : Int)) = false := by simpa using t9
      have t11 : ((i : Int) != (j : Int)) = true := by simpa using t9
      have BV0 := BV
      have FV0 := FV
      have SV0 := SV
      have PV0 := PV
      clear BV FV SV PV
      refine wp_region_C [(0, true), (1, true), (2, true), (3, true), (4, true), (5, true), (6, true), (7, true), (9, true), (10, true), (11, true), (8, false), (12, false), (13, false), (14, true), (15, true), (16, true), (17, true), (18, true), (19, true), (20, true), (21, true), (23, true), (24, true), (25, true), (22, false), (26, false), (27, false)] RBel (by kernel_rfl) (by kernel_rfl) (by kernel_rfl) (by decide) RBel.refl_ RBel.trans_ (by intro d v c a w h; cases d <;> exact h) ?_
      have BV : Blk V9.drew pR 27 (B8 cm) := BV0
      have FV : Below w.heap.size w V9.drew := FV0.drew
      have SV := SV0.drew
      have PV := PV0.drew
      clear BV0 FV0 SV0 PV0
      generalize V9.drew = V10 at *
      repeat (first | (refine wpC_quiet (v := ?_) rfl (by rfl) ?_ ?_; rotate_left; (· (intro w' hw'; go_simp; try with_reducible rfl)); simp only [Act.put, List.setIfInBounds_toArray, List.set_cons_zero, List.set_cons_succ]) | (refine wpC_val (v := ?_) (RBel.refl_) rfl (by rfl) ?_ ?_; rotate_left; (· (go_simp; try with_reducible rfl)); simp only [Act.put, List.setIfInBounds_toArray, List.set_cons_zero, List.set_cons_succ]) | (refine wpC_skip rfl (by rfl) ?_; simp only [Act.put, List.setIfInBounds_toArray, List.set_cons_zero, List.set_cons_succ]) | (refine wpC_skip' (RBel.refl_) rfl (by rfl) ?_; simp only [Act.put, List.setIfInBounds_toArray, List.set_cons_zero, List.set_cons_succ]))
      refine wpC_load rfl (by rfl) _ _ rfl pR 0 rfl (B8 cm) _ (fun w' hw' => LR BV hw') Try.underlying27 rfl (info_hash HCM.out) ?_
      simp only [Act.put, List.setIfInBounds_toArray, List.set_cons_zero, List.set_cons_succ]
      repeat (first | (refine wpC_quiet (v := ?_) rfl (by rfl) ?_ ?_; rotate_left; (· (intro w' hw'; go_simp; try with_reducible rfl)); simp only [Act.put, List.setIfInBounds_toArray, List.set_cons_zero, List.set_cons_succ]) | (refine wpC_val (v := ?_) (RBel.refl_) rfl (by rfl) ?_ ?_; rotate_left; (· (go_simp; try with_reducible rfl)); simp only [Act.put, List.setIfInBounds_toArray, List.set_cons_zero, List.set_cons_succ]) | (refine wpC_skip rfl (by rfl) ?_; simp only [Act.put, List.setIfInBounds_toArray, List.set_cons_zero, List.set_cons_succ]) | (refine wpC_skip' (RBel.refl_) rfl (by rfl) ?_; simp only [Act.put, List.setIfInBounds_toArray, List.set_cons_zero, List.set_cons_succ]))
      refine wpC_load rfl (by rfl) _ _ rfl g (i * 32) rfl (B8 li) _ (fun w' hw' => LI SV hw') Try.underlying27 rfl (info_hash HI.out) ?_
      simp only [Act.put, List.setIfInBounds_toArray, List.set_cons_zero, List.set_cons_succ]
      repeat (first | (refine wpC_quiet (v := ?_) rfl (by rfl) ?_ ?_; rotate_left; (· (intro w' hw'; go_simp; try with_reducible rfl)); simp only [Act.put, List.setIfInBounds_toArray, List.set_cons_zero, List.set_cons_succ]) | (refine wpC_val (v := ?_) (RBel.refl_) rfl (by rfl) ?_ ?_; rotate_left; (· (go_simp; try with_reducible rfl)); simp only [Act.put, List.setIfInBounds_toArray, List.set_cons_zero, List.set_cons_succ]) | (refine wpC_skip rfl (by rfl) ?_; simp only [Act.put, List.setIfInBounds_toArray, List.set_cons_zero, List.set_cons_succ]) | (refine wpC_skip' (RBel.refl_) rfl (by rfl) ?_; simp only [Act.put, List.setIfInBounds_toArray, List.set_cons_zero, List.set_cons_succ]))
      (refine wpC_loud rfl (by rfl) ?_; intro K hK; go_simp)
      refine (refVerify_any cm li (n : Int) (j : Int) A3 m c3 p V10 HCM.out HI.out PA.out HMP.out hlp.1 hlp.2 (PV) (by omega) (by omega) (by omega) (by omega)).mono ?_
      rintro e V11 ⟨rfl, hV⟩
      rw [HV1.out]
      (refine hK.out _ _ (hV) ?_; clear hK K; try simp only [Act.put, List.setIfInBounds_toArray, List.set_cons_zero, List.set_cons_succ])
      replace FV := FV.trans (hV.mono FV.size)
      replace BV := BV.to hV
      replace SV := SV.to hV
      replace PV := PV.to hV
      clear hV
      repeat (first | (refine wpC_quiet (v := ?_) rfl (by rfl) ?_ ?_; rotate_left; (· (intro w' hw'; go_simp; try with_reducible rfl)); simp only [Act.put, List.setIfInBounds_toArray, List.set_cons_zero, List.set_cons_succ]) | (refine wpC_val (v := ?_) (RBel.refl_) rfl (by rfl) ?_ ?_; rotate_left; (· (go_simp; try with_reducible rfl)); simp only [Act.put, List.setIfInBounds_toArray, List.set_cons_zero, List.set_cons_succ]) | (refine wpC_skip rfl (by rfl) ?_; simp only [Act.put, List.setIfInBounds_toArray, List.set_cons_zero, List.set_cons_succ]) | (refine wpC_skip' (RBel.refl_) rfl (by rfl) ?_; simp only [Act.put, List.setIfInBounds_toArray, List.set_cons_zero, List.set_cons_succ]))
      refine wpC_load rfl (by rfl) _ _ rfl pR 0 rfl (B8 cm) _ (fun w' hw' => LR BV hw') Try.underlying27 rfl (info_hash HCM.out) ?_
      simp only [Act.put, List.setIfInBounds_toArray, List.set_cons_zero, List.set_cons_succ]
      repeat (first | (refine wpC_quiet (v := ?_) rfl (by rfl) ?_ ?_; rotate_left; (· (intro w' hw'; go_simp; try with_reducible rfl)); simp only [Act.put, List.setIfInBounds_toArray, List.set_cons_zero, List.set_cons_succ]) | (refine wpC_val (v := ?_) (RBel.refl_) rfl (by rfl) ?_ ?_; rotate_left; (· (go_simp; try with_reducible rfl)); simp only [Act.put, List.setIfInBounds_toArray, List.set_cons_zero, List.set_cons_succ]) | (refine wpC_skip rfl (by rfl) ?_; simp only [Act.put, List.setIfInBounds_toArray, List.set_cons_zero, List.set_cons_succ]) | (refine wpC_skip' (RBel.refl_) rfl (by rfl) ?_; simp only [Act.put, List.setIfInBounds_toArray, List.set_cons_zero, List.set_cons_succ]))
      refine wpC_load rfl (by rfl) _ _ rfl g (j * 32) rfl (B8 lj) _ (fun w' hw' => LJ SV hw') Try.underlying27 rfl (info_hash HJ.out) ?_
      simp only [Act.put, List.setIfInBounds_toArray, List.set_cons_zero, List.set_cons_succ]
      repeat (first | (refine wpC_quiet (v := ?_) rfl (by rfl) ?_ ?_; rotate_left; (· (intro w' hw'; go_simp; try with_reducible rfl)); simp only [Act.put, List.setIfInBounds_toArray, List.set_cons_zero, List.set_cons_succ]) | (refine wpC_val (v := ?_) (RBel.refl_) rfl (by rfl) ?_ ?_; rotate_left; (· (go_simp; try with_reducible rfl)); simp only [Act.put, List.setIfInBounds_toArray, List.set_cons_zero, List.set_cons_succ]) | (refine wpC_skip rfl (by rfl) ?_; simp only [Act.put, List.setIfInBounds_toArray, List.set_cons_zero, List.set_cons_succ]) | (refine wpC_skip' (RBel.refl_) rfl (by rfl) ?_; simp only [Act.put, List.setIfInBounds_toArray, List.set_cons_zero, List.set_cons_succ]))
      (refine wpC_loud rfl (by rfl) ?_; intro K hK; go_simp)
      refine (refVerify_any cm lj (n : Int) (i : Int) A3 m c3 p V11 HCM.out HJ.out PA.out HMP.out hlp.1 hlp.2 (PV) (by omega) (by omega) (by omega) (by omega)).mono ?_
      rintro e V12 ⟨rfl, hV⟩
      rw [HV2.out]
      (refine hK.out _ _ (hV) ?_; clear hK K; try simp only [Act.put, List.setIfInBounds_toArray, List.set_cons_zero, List.set_cons_succ])
      replace FV := FV.trans (hV.mono FV.size)
      replace BV := BV.to hV
      replace SV := SV.to hV
      replace PV := PV.to hV
      clear hV
      repeat (first | (refine wpC_quiet (v := ?_) rfl (by rfl) ?_ ?_; rotate_left; (· (intro w' hw'; go_simp; try with_reducible rfl)); simp only [Act.put, List.setIfInBounds_toArray, List.set_cons_zero, List.set_cons_succ]) | (refine wpC_val (v := ?_) (RBel.refl_) rfl (by rfl) ?_ ?_; rotate_left; (· (go_simp; try with_reducible rfl)); simp only [Act.put, List.setIfInBounds_toArray, List.set_cons_zero, List.set_cons_succ]) | (refine wpC_skip rfl (by rfl) ?_; simp only [Act.put, List.setIfInBounds_toArray, List.set_cons_zero, List.set_cons_succ]) | (refine wpC_skip' (RBel.refl_) rfl (by rfl) ?_; simp only [Act.put, List.setIfInBounds_toArray, List.set_cons_zero, List.set_cons_succ]))
      refine wpC_nil ?_
      go_wp2_with fail
      refine Code.wp_mono (Q := fun e aa w' => e = .normal ∧ ∃ u : Nat → Value, aa = ⟨#[.int .i64 n, .int .i64 i, .int .i64 j, .int .i64 t, undef, undef, undef, undef, .bool false, .slice (some ⟨g, 0, none⟩) n c2, .pointer (some ⟨pR, 0, none⟩), .slice A3 m c3, .int .i64 0, undef, u 14, u 15, u 16, u 17, u 18, u 19, u 20, u 21, u 22, u 23, u 24, u 25, u 26, u 27, u 28, u 29, u 30, u 31, u 32, u 33, u 34, u 35, u 36, u 37, u 38, u 39, u 40, u 41, u 42, u 43, u 44, u 45, u 46, u 47, u 48, u 49, u 50, u 51, u 52, u 53, u 54, u 55, u 56, u 57, u 58, u 59, u 60, u 61, u 62, u 63, u 64, u 65, u 66, u 67, u 68, u 69, u 70, u 71, u 72, u 73, u 74, u 75, u 76, u 77, u 78, u 79, u 80, u 81, u 82, u 83, u 84, u 85, u 86, u 87, u 88, u 89, u 90, u 91, u 92, u 93, u 94, u 95, u 96, u 97, u 98, u 99, u 100, u 101, u 102, u 103, u 104, u 105, u 106, u 107, u 108, u 109, u 110, u 111, u 112, u 113, u 114, u 115, u 116, u 117, u 118, u 119, u 120, u 121, u 122, u 123, u 124, u 125, u 126, u 127, u 128, u 129, u 130, u 131, u 132, u 133, u 134, u 135, u 136, u 137, u 138, u 139, u 140, u 141, u 142, .bool false, undef, undef, undef, undef, undef, undef, undef, undef, undef, undef, undef, undef, undef, undef, undef, undef, undef, undef, undef, undef, undef, undef, undef, undef, undef, undef, undef, undef, undef, undef, undef, undef, undef, undef, undef, undef, undef, undef, undef, undef, undef, undef, undef, undef, undef, undef, undef, undef, undef, undef, undef, undef, undef, undef, undef, undef, undef, undef, undef, undef, undef, undef, undef, undef], []⟩ ∧ Below V12.heap.size V12 w') ?_ ?_
      rotate_left
      · refine wp_region_P (.take 0 (.take 1 (.take 2 (.take 3 (.take 4 (.take 5 (.take 6 (.take 7 (.take 9 (.take 10 (.take 11 (.one 8 (.one 12 (.one 13 (.take 14 (.take 15 (.take 16 (.take 17 (.take 18 (.take 19 (.take 20 (.take 21 (.take 23 (.take 24 (.take 25 (.one 22 (.one 26 (.one 27 (.one 28 (.take 29 (.take 30 (.take 31 (.take 32 (.take 33 (.take 34 (.take 35 (.one 36 (.one 37 (.one 38 (.one 39 (.take 40 (.take 41 (.take 42 (.take 43 (.take 44 (.take 45 (.one 46 (.one 47 (.one 48 (.one 49 (.take 50 (.take 51 (.take 52 (.take 53 (.take 54 (.take 55 (.take 56 (.take 58 (.take 60 (.take 61 (.take 62 (.two 57 (.two 59 (.one 63 (.one 64 (.one 65 (.one 66 .done)))) 63 (.one 59 (.one 64 (.one 65 (.one 66 .done))))) 63 (.one 57 (.one 59 (.one 64 (.one 65 (.one 66 .done))))))))))))))))))))))))))))))))))))))))))))))))))))))))))))))))))) (Below V12.drew.heap.size) (by kernel_rfl) (by kernel_rfl) (by kernel_rfl) (by decide +kernel) (Below.refl _) (fun _ _ _ => Below.trans) (by intro d v c a w h; exact absurd h.1 (by simp)) ?_
        have FD : Below V12.heap.size V12 V12.drew := (Below.refl _ _).drew
        replace BV : Blk V12.drew pR 27 (B8 cm) := BV
        replace SV := SV.drew
        replace PV := PV.drew
        clear FV
        generalize V12.drew = V13 at *
        have FB : Below V13.heap.size V13 V13 := Below.refl _ _
        have hpR : pR < V13.heap.size := BV.lt
        have hgB : g < V13.heap.size := by
          obtain ⟨b9, o9, e9, h9⟩ := SV.some_ (by omega)
          injection e9 with e9
          injection e9 with e9
          omega
        have hPB : ∀ b', A3.map (·.block) = some b' → m ≠ 0 → b' < V13.heap.size := by
          intro b' hb' hm0
          obtain ⟨b9, o9, e9, h9⟩ := PV.some_ (by omega)
          subst e9
          simp at hb'
          omega
        repeat (first | (refine wpP_quiet (v := ?_) rfl (by rfl) ?_ ?_; rotate_left; (· (intro w' hw'; go_simp; try with_reducible rfl)); simp only [Act.put, List.setIfInBounds_toArray, List.set_cons_zero, List.set_cons_succ]) | (refine wpP_val (v := ?_) (Below.refl _) rfl (by rfl) ?_ ?_; rotate_left; (· (go_simp; try with_reducible rfl)); simp only [Act.put, List.setIfInBounds_toArray, List.set_cons_zero, List.set_cons_succ]) | (refine wpP_skip rfl (by rfl) ?_; simp only [Act.put, List.setIfInBounds_toArray, List.set_cons_zero, List.set_cons_succ]) | (refine wpP_skip' (Below.refl _) rfl (by rfl) ?_; simp only [Act.put, List.setIfInBounds_toArray, List.set_cons_zero, List.set_cons_succ]))
        refine wpP_load rfl (by rfl) _ _ rfl pR 0 rfl (B8 cm) _ (fun w' hw' => LR2 BV hw' hpR) Try.underlying27 rfl (info_hash HCM.out) ?_
        simp only [Act.put, List.setIfInBounds_toArray, List.set_cons_zero, List.set_cons_succ]
        repeat (first | (refine wpP_quiet (v := ?_) rfl (by rfl) ?_ ?_; rotate_left; (· (intro w' hw'; go_simp; try with_reducible rfl)); simp only [Act.put, List.setIfInBounds_toArray, List.set_cons_zero, List.set_cons_succ]) | (refine wpP_val (v := ?_) (Below.refl _) rfl (by rfl) ?_ ?_; rotate_left; (· (go_simp; try with_reducible rfl)); simp only [Act.put, List.setIfInBounds_toArray, List.set_cons_zero, List.set_cons_succ]) | (refine wpP_skip rfl (by rfl) ?_; simp only [Act.put, List.setIfInBounds_toArray, List.set_cons_zero, List.set_cons_succ]) | (refine wpP_skip' (Below.refl _) rfl (by rfl) ?_; simp only [Act.put, List.setIfInBounds_toArray, List.set_cons_zero, List.set_cons_succ]))
        refine wpP_load rfl (by rfl) _ _ rfl g (i * 32) rfl (B8 li) _ (fun w' hw' => LI2 SV hw' hgB) Try.underlying27 rfl (info_hash HI.out) ?_
        simp only [Act.put, List.setIfInBounds_toArray, List.set_cons_zero, List.set_cons_succ]
        repeat (first | (refine wpP_quiet (v := ?_) rfl (by rfl) ?_ ?_; rotate_left; (· (intro w' hw'; go_simp; try with_reducible rfl)); simp only [Act.put, List.setIfInBounds_toArray, List.set_cons_zero, List.set_cons_succ]) | (refine wpP_val (v := ?_) (Below.refl _) rfl (by rfl) ?_ ?_; rotate_left; (· (go_simp; try with_reducible rfl)); simp only [Act.put, List.setIfInBounds_toArray, List.set_cons_zero, List.set_cons_succ]) | (refine wpP_skip rfl (by rfl) ?_; simp only [Act.put, List.setIfInBounds_toArray, List.set_cons_zero, List.set_cons_succ]) | (refine wpP_skip' (Below.refl _) rfl (by rfl) ?_; simp only [Act.put, List.setIfInBounds_toArray, List.set_cons_zero, List.set_cons_succ]))
        (refine wpP_one ?_; refine wpP_loud rfl (by rfl) ?_; intro K hK; go_simp)
        refine (verify_any cm li (n : Int) (j : Int) A3 m c3 p V13 HCM.out HI.out PA.out HMP.out (PV) (by omega) (by omega) (by omega) (by omega)).mono ?_
        rintro e V14 ⟨rfl, hV⟩
        rw [HV1.out]
        refine hK.out _ _ (hV.mono FB.size) ?_
        clear hK K
        try simp only [Act.put, List.setIfInBounds_toArray, List.set_cons_zero, List.set_cons_succ]
        replace FB := FB.trans (hV.mono FB.size)
        replace BV := BV.to hV
        replace SV := SV.to hV
        replace PV := PV.to hV
        clear hV
        repeat (first | (refine wpP_quiet (v := ?_) rfl (by rfl) ?_ ?_; rotate_left; (· (intro w' hw'; go_simp; try with_reducible rfl)); simp only [Act.put, List.setIfInBounds_toArray, List.set_cons_zero, List.set_cons_succ]) | (refine wpP_val (v := ?_) (Below.refl _) rfl (by rfl) ?_ ?_; rotate_left; (· (go_simp; try with_reducible rfl)); simp only [Act.put, List.setIfInBounds_toArray, List.set_cons_zero, List.set_cons_succ]) | (refine wpP_skip rfl (by rfl) ?_; simp only [Act.put, List.setIfInBounds_toArray, List.set_cons_zero, List.set_cons_succ]) | (refine wpP_skip' (Below.refl _) rfl (by rfl) ?_; simp only [Act.put, List.setIfInBounds_toArray, List.set_cons_zero, List.set_cons_succ]))
        refine wpP_load rfl (by rfl) _ _ rfl pR 0 rfl (B8 cm) _ (fun w' hw' => LR2 BV hw' hpR) Try.underlying27 rfl (info_hash HCM.out) ?_
        simp only [Act.put, List.setIfInBounds_toArray, List.set_cons_zero, List.set_cons_succ]
        repeat (first | (refine wpP_quiet (v := ?_) rfl (by rfl) ?_ ?_; rotate_left; (· (intro w' hw'; go_simp; try with_reducible rfl)); simp only [Act.put, List.setIfInBounds_toArray, List.set_cons_zero, List.set_cons_succ]) | (refine wpP_val (v := ?_) (Below.refl _) rfl (by rfl) ?_ ?_; rotate_left; (· (go_simp; try with_reducible rfl)); simp only [Act.put, List.setIfInBounds_toArray, List.set_cons_zero, List.set_cons_succ]) | (refine wpP_skip rfl (by rfl) ?_; simp only [Act.put, List.setIfInBounds_toArray, List.set_cons_zero, List.set_cons_succ]) | (refine wpP_skip' (Below.refl _) rfl (by rfl) ?_; simp only [Act.put, List.setIfInBounds_toArray, List.set_cons_zero, List.set_cons_succ]))
        refine wpP_load rfl (by rfl) _ _ rfl g (j * 32) rfl (B8 lj) _ (fun w' hw' => LJ2 SV hw' hgB) Try.underlying27 rfl (info_hash HJ.out) ?_
        simp only [Act.put, List.setIfInBounds_toArray, List.set_cons_zero, List.set_cons_succ]
        repeat (first | (refine wpP_quiet (v := ?_) rfl (by rfl) ?_ ?_; rotate_left; (· (intro w' hw'; go_simp; try with_reducible rfl)); simp only [Act.put, List.setIfInBounds_toArray, List.set_cons_zero, List.set_cons_succ]) | (refine wpP_val (v := ?_) (Below.refl _) rfl (by rfl) ?_ ?_; rotate_left; (· (go_simp; try with_reducible rfl)); simp only [Act.put, List.setIfInBounds_toArray, List.set_cons_zero, List.set_cons_succ]) | (refine wpP_skip rfl (by rfl) ?_; simp only [Act.put, List.setIfInBounds_toArray, List.set_cons_zero, List.set_cons_succ]) | (refine wpP_skip' (Below.refl _) rfl (by rfl) ?_; simp only [Act.put, List.setIfInBounds_toArray, List.set_cons_zero, List.set_cons_succ]))
        (refine wpP_one ?_; refine wpP_loud rfl (by rfl) ?_; intro K hK; go_simp)
        refine (verify_any cm lj (n : Int) (i : Int) A3 m c3 p V14 HCM.out HJ.out PA.out HMP.out (PV) (by omega) (by omega) (by omega) (by omega)).mono ?_
        rintro e V15 ⟨rfl, hV⟩
        rw [HV2.out]
        refine hK.out _ _ (hV.mono FB.size) ?_
        clear hK K
        try simp only [Act.put, List.setIfInBounds_toArray, List.set_cons_zero, List.set_cons_succ]
        replace FB := FB.trans (hV.mono FB.size)
        replace BV := BV.to hV
        replace SV := SV.to hV
        replace PV := PV.to hV
        clear hV
        repeat (first | (refine wpP_quiet (v := ?_) rfl (by rfl) ?_ ?_; rotate_left; (· (intro w' hw'; go_simp; try with_reducible rfl)); simp only [Act.put, List.setIfInBounds_toArray, List.set_cons_zero, List.set_cons_succ]) | (refine wpP_val (v := ?_) (Below.refl _) rfl (by rfl) ?_ ?_; rotate_left; (· (go_simp; try with_reducible rfl)); simp only [Act.put, List.setIfInBounds_toArray, List.set_cons_zero, List.set_cons_succ]) | (refine wpP_skip rfl (by rfl) ?_; simp only [Act.put, List.setIfInBounds_toArray, List.set_cons_zero, List.set_cons_succ]) | (refine wpP_skip' (Below.refl _) rfl (by rfl) ?_; simp only [Act.put, List.setIfInBounds_toArray, List.set_cons_zero, List.set_cons_succ]))
        refine wpP_load rfl (by rfl) _ _ rfl pR 0 rfl (B8 cm) _ (fun w' hw' => LR2 BV hw' hpR) Try.underlying27 rfl (info_hash HCM.out) ?_
        simp only [Act.put, List.setIfInBounds_toArray, List.set_cons_zero, List.set_cons_succ]
        repeat (first | (refine wpP_quiet (v := ?_) rfl (by rfl) ?_ ?_; rotate_left; (· (intro w' hw'; go_simp; try with_reducible rfl)); simp only [Act.put, List.setIfInBounds_toArray, List.set_cons_zero, List.set_cons_succ]) | (refine wpP_val (v := ?_) (Below.refl _) rfl (by rfl) ?_ ?_; rotate_left; (· (go_simp; try with_reducible rfl)); simp only [Act.put, List.setIfInBounds_toArray, List.set_cons_zero, List.set_cons_succ]) | (refine wpP_skip rfl (by rfl) ?_; simp only [Act.put, List.setIfInBounds_toArray, List.set_cons_zero, List.set_cons_succ]) | (refine wpP_skip' (Below.refl _) rfl (by rfl) ?_; simp only [Act.put, List.setIfInBounds_toArray, List.set_cons_zero, List.set_cons_succ]))
        refine wpP_load rfl (by rfl) _ _ rfl g (i * 32) rfl (B8 li) _ (fun w' hw' => LI2 SV hw' hgB) Try.underlying27 rfl (info_hash HI.out) ?_
        simp only [Act.put, List.setIfInBounds_toArray, List.set_cons_zero, List.set_cons_succ]
        repeat (first | (refine wpP_quiet (v := ?_) rfl (by rfl) ?_ ?_; rotate_left; (· (intro w' hw'; go_simp; try with_reducible rfl)); simp only [Act.put, List.setIfInBounds_toArray, List.set_cons_zero, List.set_cons_succ]) | (refine wpP_val (v := ?_) (Below.refl _) rfl (by rfl) ?_ ?_; rotate_left; (· (go_simp; try with_reducible rfl)); simp only [Act.put, List.setIfInBounds_toArray, List.set_cons_zero, List.set_cons_succ]) | (refine wpP_skip rfl (by rfl) ?_; simp only [Act.put, List.setIfInBounds_toArray, List.set_cons_zero, List.set_cons_succ]) | (refine wpP_skip' (Below.refl _) rfl (by rfl) ?_; simp only [Act.put, List.setIfInBounds_toArray, List.set_cons_zero, List.set_cons_succ]))
        (refine wpP_one ?_; refine wpP_loud rfl (by rfl) ?_; intro K hK; go_simp)
        refine (verify_any cm li (n : Int) (n : Int) A3 m c3 p V15 HCM.out HI.out PA.out HMP.out (PV) (by omega) (by omega) (by omega) (by omega)).mono ?_
        rintro e V16 ⟨rfl, hV⟩
        rw [ver_out (.inr (Int.le_refl _))]
        refine hK.out _ _ (hV.mono FB.size) ?_
        clear hK K
        try simp only [Act.put, List.setIfInBounds_toArray, List.set_cons_zero, List.set_cons_succ]
        replace FB := FB.trans (hV.mono FB.size)
        replace BV := BV.to hV
        replace SV := SV.to hV
        replace PV := PV.to hV
        clear hV
        repeat (first | (refine wpP_quiet (v := ?_) rfl (by rfl) ?_ ?_; rotate_left; (· (intro w' hw'; go_simp; try with_reducible rfl)); simp only [Act.put, List.setIfInBounds_toArray, List.set_cons_zero, List.set_cons_succ]) | (refine wpP_val (v := ?_) (Below.refl _) rfl (by rfl) ?_ ?_; rotate_left; (· (go_simp; try with_reducible rfl)); simp only [Act.put, List.setIfInBounds_toArray, List.set_cons_zero, List.set_cons_succ]) | (refine wpP_skip rfl (by rfl) ?_; simp only [Act.put, List.setIfInBounds_toArray, List.set_cons_zero, List.set_cons_succ]) | (refine wpP_skip' (Below.refl _) rfl (by rfl) ?_; simp only [Act.put, List.setIfInBounds_toArray, List.set_cons_zero, List.set_cons_succ]))
        refine wpP_load rfl (by rfl) _ _ rfl pR 0 rfl (B8 cm) _ (fun w' hw' => LR2 BV hw' hpR) Try.underlying27 rfl (info_hash HCM.out) ?_
        simp only [Act.put, List.setIfInBounds_toArray, List.set_cons_zero, List.set_cons_succ]
        repeat (first | (refine wpP_quiet (v := ?_) rfl (by rfl) ?_ ?_; rotate_left; (· (intro w' hw'; go_simp; try with_reducible rfl)); simp only [Act.put, List.setIfInBounds_toArray, List.set_cons_zero, List.set_cons_succ]) | (refine wpP_val (v := ?_) (Below.refl _) rfl (by rfl) ?_ ?_; rotate_left; (· (go_simp; try with_reducible rfl)); simp only [Act.put, List.setIfInBounds_toArray, List.set_cons_zero, List.set_cons_succ]) | (refine wpP_skip rfl (by rfl) ?_; simp only [Act.put, List.setIfInBounds_toArray, List.set_cons_zero, List.set_cons_succ]) | (refine wpP_skip' (Below.refl _) rfl (by rfl) ?_; simp only [Act.put, List.setIfInBounds_toArray, List.set_cons_zero, List.set_cons_succ]))
        refine wpP_load rfl (by rfl) _ _ rfl g (i * 32) rfl (B8 li) _ (fun w' hw' => LI2 SV hw' hgB) Try.underlying27 rfl (info_hash HI.out) ?_
        simp only [Act.put, List.setIfInBounds_toArray, List.set_cons_zero, List.set_cons_succ]
        repeat (first | (refine wpP_quiet (v := ?_) rfl (by rfl) ?_ ?_; rotate_left; (· (intro w' hw'; go_simp; try with_reducible rfl)); simp only [Act.put, List.setIfInBounds_toArray, List.set_cons_zero, List.set_cons_succ]) | (refine wpP_val (v := ?_) (Below.refl _) rfl (by rfl) ?_ ?_; rotate_left; (· (go_simp; try with_reducible rfl)); simp only [Act.put, List.setIfInBounds_toArray, List.set_cons_zero, List.set_cons_succ]) | (refine wpP_skip rfl (by rfl) ?_; simp only [Act.put, List.setIfInBounds_toArray, List.set_cons_zero, List.set_cons_succ]) | (refine wpP_skip' (Below.refl _) rfl (by rfl) ?_; simp only [Act.put, List.setIfInBounds_toArray, List.set_cons_zero, List.set_cons_succ]))
        (refine wpP_one ?_; refine wpP_loud rfl (by rfl) ?_; intro K hK; go_simp)
        refine (verify_any cm li (n : Int) (-1) A3 m c3 p V16 HCM.out HI.out PA.out HMP.out (PV) (by omega) (by omega) (by omega) (by omega)).mono ?_
        rintro e V17 ⟨rfl, hV⟩
        rw [ver_out (.inl (by decide))]
        refine hK.out _ _ (hV.mono FB.size) ?_
        clear hK K
        try simp only [Act.put, List.setIfInBounds_toArray, List.set_cons_zero, List.set_cons_succ]
        replace FB := FB.trans (hV.mono FB.size)
        replace BV := BV.to hV
        replace SV := SV.to hV
        replace PV := PV.to hV
        clear hV
        repeat (first | (refine wpP_quiet (v := ?_) rfl (by rfl) ?_ ?_; rotate_left; (· (intro w' hw'; go_simp; try with_reducible rfl)); simp only [Act.put, List.setIfInBounds_toArray, List.set_cons_zero, List.set_cons_succ]) | (refine wpP_val (v := ?_) (Below.refl _) rfl (by rfl) ?_ ?_; rotate_left; (· (go_simp; try with_reducible rfl)); simp only [Act.put, List.setIfInBounds_toArray, List.set_cons_zero, List.set_cons_succ]) | (refine wpP_skip rfl (by rfl) ?_; simp only [Act.put, List.setIfInBounds_toArray, List.set_cons_zero, List.set_cons_succ]) | (refine wpP_skip' (Below.refl _) rfl (by rfl) ?_; simp only [Act.put, List.setIfInBounds_toArray, List.set_cons_zero, List.set_cons_succ]))
        refine wpP_load rfl (by rfl) _ _ rfl pR 0 rfl (B8 cm) _ (fun w' hw' => LR2 BV hw' hpR) Try.underlying27 rfl (info_hash HCM.out) ?_
        simp only [Act.put, List.setIfInBounds_toArray, List.set_cons_zero, List.set_cons_succ]
        repeat (first | (refine wpP_quiet (v := ?_) rfl (by rfl) ?_ ?_; rotate_left; (· (intro w' hw'; go_simp; try with_reducible rfl)); simp only [Act.put, List.setIfInBounds_toArray, List.set_cons_zero, List.set_cons_succ]) | (refine wpP_val (v := ?_) (Below.refl _) rfl (by rfl) ?_ ?_; rotate_left; (· (go_simp; try with_reducible rfl)); simp only [Act.put, List.setIfInBounds_toArray, List.set_cons_zero, List.set_cons_succ]) | (refine wpP_skip rfl (by rfl) ?_; simp only [Act.put, List.setIfInBounds_toArray, List.set_cons_zero, List.set_cons_succ]) | (refine wpP_skip' (Below.refl _) rfl (by rfl) ?_; simp only [Act.put, List.setIfInBounds_toArray, List.set_cons_zero, List.set_cons_succ]))
        refine wpP_load rfl (by rfl) _ _ rfl g (i * 32) rfl (B8 li) _ (fun w' hw' => LI2 SV hw' hgB) Try.underlying27 rfl (info_hash HI.out) ?_
        simp only [Act.put, List.setIfInBounds_toArray, List.set_cons_zero, List.set_cons_succ]
        repeat (first | (refine wpP_quiet (v := ?_) rfl (by rfl) ?_ ?_; rotate_left; (· (intro w' hw'; go_simp; try with_reducible rfl)); simp only [Act.put, List.setIfInBounds_toArray, List.set_cons_zero, List.set_cons_succ]) | (refine wpP_val (v := ?_) (Below.refl _) rfl (by rfl) ?_ ?_; rotate_left; (· (go_simp; try with_reducible rfl)); simp only [Act.put, List.setIfInBounds_toArray, List.set_cons_zero, List.set_cons_succ]) | (refine wpP_skip rfl (by rfl) ?_; simp only [Act.put, List.setIfInBounds_toArray, List.set_cons_zero, List.set_cons_succ]) | (refine wpP_skip' (Below.refl _) rfl (by rfl) ?_; simp only [Act.put, List.setIfInBounds_toArray, List.set_cons_zero, List.set_cons_succ]))
        refine wpP_load rfl (by rfl) _ _ rfl g 0 rfl (B8 l0) _ (fun w' hw' => LO2 SV hw' hgB) Try.underlying27 rfl (info_hash H0.out) ?_
        simp only [Act.put, List.setIfInBounds_toArray, List.set_cons_zero, List.set_cons_succ]
        refine wpP_two ?_ ?_
        · refine wpP_loud rfl (by rfl) ?_
          intro K hK
          have hb : Below V13.heap.size V17 (V17.alloc (.cells #[] 27)) := (Below.refl _ _).alloc FB.size _
          have ow : Own (V17.alloc (.cells #[] 27)) V13.heap.size 27 32 (some ⟨V17.heap.size, 0, none⟩) 0 0 (H8 []) := Own.made V17 V13.heap.size 27 #[] FB.size (Nat.zero_le _) (by simp)
          go_simp
          refine hK.out _ _ hb ?_
          clear hK K
          try simp only [Act.put, List.setIfInBounds_toArray, List.set_cons_zero, List.set_cons_succ]
          obtain ⟨pa, hpa⟩ : ∃ p, p = V17.heap.size := ⟨_, rfl⟩
          rw [show Value.slice (some ⟨V17.heap.size, 0, none⟩) 0 0 = Value.slice (some ⟨pa, 0, none⟩) 0 0 from by rw [hpa]]
          rw [← hpa] at ow
          clear hpa
          generalize V17.alloc (.cells #[] 27) = V17a at *
          replace PV := PV.bel2' hb hPB
          replace BV := BV.below hb hpR
          replace SV := SV.bel2 hb hgB
          replace FB := FB.trans hb
          clear hb
          refine wpP_two ?_ ?_
          · refine wpP_loud rfl (by rfl) ?_
            intro K hK
            refine wp_app _ _ _ _ elH rfl rfl ow rfl PV (H8_one _) (by omega) (by omega) FB.size ?_
            intro A4 c4 V17b g4
            have ow4 : Own V17b V13.heap.size 27 32 A4 m c4 (H8 p) := by have := g4.own; simpa [H8] using this
            have hb : Below V13.heap.size V17a V17b := g4.below ow FB.size
            rw [Nat.zero_add]
            refine hK.out _ _ hb ?_
            clear hK K
            try simp only [Act.put, List.setIfInBounds_toArray, List.set_cons_zero, List.set_cons_succ]
            
            clear g4 ow
            replace PV := PV.bel2' hb hPB
            replace BV := BV.below hb hpR
            replace SV := SV.bel2 hb hgB
            replace FB := FB.trans hb
            clear hb
            refine wpP_one ?_
            refine wpP_loud rfl (by rfl) ?_
            intro K hK
            have hb : Below V13.heap.size V17b (V17b.alloc (.cells (H8 [l0]).toArray 27)) := (Below.refl _ _).alloc FB.size _
            have sx : Sl (V17b.alloc (.cells (H8 [l0]).toArray 27)) 32 (some ⟨V17b.heap.size, 0, none⟩) 1 (H8 [l0]) := Sl.new32 V17b [l0] 27 HA0.out
            refine wp_bs 1 _ rfl [l0] HA0.out rfl (by decide) (by decide) (by simp [Act.eval, Act.put]) ?_
            refine hK.out _ _ hb ?_
            clear hK K
            try simp only [Act.put, List.setIfInBounds_toArray, List.set_cons_zero, List.set_cons_succ]
            obtain ⟨px, hpx⟩ : ∃ p, p = V17b.heap.size := ⟨_, rfl⟩
            rw [show Value.slice (some ⟨V17b.heap.size, 0, none⟩) 1 1 = Value.slice (some ⟨px, 0, none⟩) 1 1 from by rw [hpx]]
            rw [← hpx] at sx
            replace ow4 := ow4.alloc (.cells (H8 [l0]).toArray 27)
            clear hpx
            generalize V17b.alloc (.cells (H8 [l0]).toArray 27) = V17c at *
            replace PV := PV.bel2' hb hPB
            replace BV := BV.below hb hpR
            replace SV := SV.bel2 hb hgB
            replace FB := FB.trans hb
            clear hb
            refine wpP_one ?_
            refine wpP_loud rfl (by rfl) ?_
            intro K hK
            refine wp_app _ _ _ _ elH rfl rfl ow4 rfl sx (H8_one _) (by omega) (by omega) FB.size ?_
            intro A5 c5 V18 g5
            have ow5 : Sl V18 32 A5 (m + 1) (H8 (p ++ [l0])) := by have := g5.own.sl; rw [H8_app_]; exact this
            have hb : Below V13.heap.size V17c V18 := g5.below ow4 FB.size
            refine hK.out _ _ hb ?_
            clear hK K
            try simp only [Act.put, List.setIfInBounds_toArray, List.set_cons_zero, List.set_cons_succ]
            clear g5 ow4 sx
            replace FB := FB.trans hb
            clear hb
            (refine wpP_one ?_; refine wpP_loud rfl (by rfl) ?_; intro K hK; go_simp)
            refine (verify_any cm li (n : Int) (i : Int) A5 (m + 1) c5 (p ++ [l0]) V18 HCM.out HI.out PA2.out HMP2.out ow5 (by omega) (by omega) (by omega) (by omega)).mono ?_
            rintro e V19 ⟨rfl, hV⟩
            rw [VLONG.out]
            refine hK.out _ _ (hV.mono FB.size) ?_
            clear hK K
            try simp only [Act.put, List.setIfInBounds_toArray, List.set_cons_zero, List.set_cons_succ]
            replace FB := FB.trans (hV.mono FB.size)
            clear hV ow5
            repeat (first | (refine wpP_quiet (v := ?_) rfl (by rfl) ?_ ?_; rotate_left; (· (intro w' hw'; go_simp; try with_reducible rfl)); simp only [Act.put, List.setIfInBounds_toArray, List.set_cons_zero, List.set_cons_succ]) | (refine wpP_val (v := ?_) (Below.refl _) rfl (by rfl) ?_ ?_; rotate_left; (· (go_simp; try with_reducible rfl)); simp only [Act.put, List.setIfInBounds_toArray, List.set_cons_zero, List.set_cons_succ]) | (refine wpP_skip rfl (by rfl) ?_; simp only [Act.put, List.setIfInBounds_toArray, List.set_cons_zero, List.set_cons_succ]) | (refine wpP_skip' (Below.refl _) rfl (by rfl) ?_; simp only [Act.put, List.setIfInBounds_toArray, List.set_cons_zero, List.set_cons_succ]))
            refine wpP_done ?_
            exact ⟨rfl, mid_of rfl (FD.trans (FB.mono FD.size))⟩
          · refine wpP_loud rfl (by rfl) ?_
            intro K hK
            have hb : Below V13.heap.size V17a (V17a.alloc (.cells (H8 [l0]).toArray 27)) := (Below.refl _ _).alloc FB.size _
            have sx : Sl (V17a.alloc (.cells (H8 [l0]).toArray 27)) 32 (some ⟨V17a.heap.size, 0, none⟩) 1 (H8 [l0]) := Sl.new32 V17a [l0] 27 HA0.out
            refine wp_bs 1 _ rfl [l0] HA0.out rfl (by decide) (by decide) (by simp [Act.eval, Act.put]) ?_
            refine hK.out _ _ hb ?_
            clear hK K
            try simp only [Act.put, List.setIfInBounds_toArray, List.set_cons_zero, List.set_cons_succ]
            obtain ⟨px, hpx⟩ : ∃ p, p = V17a.heap.size := ⟨_, rfl⟩
            have hne : pa ≠ px := by
              have := ow.lt pa rfl
              omega
            rw [show Value.slice (some ⟨V17a.heap.size, 0, none⟩) 1 1 = Value.slice (some ⟨px, 0, none⟩) 1 1 from by rw [hpx]]
            rw [← hpx] at sx
            replace ow := ow.alloc (.cells (H8 [l0]).toArray 27)
            clear hpx
            generalize V17a.alloc (.cells (H8 [l0]).toArray 27) = V17b at *
            replace PV := PV.bel2' hb hPB
            replace BV := BV.below hb hpR
            replace SV := SV.bel2 hb hgB
            replace FB := FB.trans hb
            clear hb
            refine wpP_one ?_
            refine wpP_loud rfl (by rfl) ?_
            intro K hK
            refine wp_app _ _ _ _ elH rfl rfl ow rfl PV (H8_one _) (by omega) (by omega) FB.size ?_
            intro A4 c4 V17c g4
            have ow4 : Own V17c V13.heap.size 27 32 A4 m c4 (H8 p) := by have := g4.own; simpa [H8] using this
            have hb : Below V13.heap.size V17b V17c := g4.below ow FB.size
            rw [Nat.zero_add]
            refine hK.out _ _ hb ?_
            clear hK K
            try simp only [Act.put, List.setIfInBounds_toArray, List.set_cons_zero, List.set_cons_succ]
            replace sx := sx.but g4.grow (by intro e; injection e with e; exact hne e.symm)
            clear g4 ow
            replace PV := PV.bel2' hb hPB
            replace BV := BV.below hb hpR
            replace SV := SV.bel2 hb hgB
            replace FB := FB.trans hb
            clear hb
            refine wpP_one ?_
            refine wpP_loud rfl (by rfl) ?_
            intro K hK
            refine wp_app _ _ _ _ elH rfl rfl ow4 rfl sx (H8_one _) (by omega) (by omega) FB.size ?_
            intro A5 c5 V18 g5
            have ow5 : Sl V18 32 A5 (m + 1) (H8 (p ++ [l0])) := by have := g5.own.sl; rw [H8_app_]; exact this
            have hb : Below V13.heap.size V17c V18 := g5.below ow4 FB.size
            refine hK.out _ _ hb ?_
            clear hK K
            try simp only [Act.put, List.setIfInBounds_toArray, List.set_cons_zero, List.set_cons_succ]
            clear g5 ow4 sx
            replace FB := FB.trans hb
            clear hb
            (refine wpP_one ?_; refine wpP_loud rfl (by rfl) ?_; intro K hK; go_simp)
            refine (verify_any cm li (n : Int) (i : Int) A5 (m + 1) c5 (p ++ [l0]) V18 HCM.out HI.out PA2.out HMP2.out ow5 (by omega) (by omega) (by omega) (by omega)).mono ?_
            rintro e V19 ⟨rfl, hV⟩
            rw [VLONG.out]
            refine hK.out _ _ (hV.mono FB.size) ?_
            clear hK K
            try simp only [Act.put, List.setIfInBounds_toArray, List.set_cons_zero, List.set_cons_succ]
            replace FB := FB.trans (hV.mono FB.size)
            clear hV ow5
            repeat (first | (refine wpP_quiet (v := ?_) rfl (by rfl) ?_ ?_; rotate_left; (· (intro w' hw'; go_simp; try with_reducible rfl)); simp only [Act.put, List.setIfInBounds_toArray, List.set_cons_zero, List.set_cons_succ]) | (refine wpP_val (v := ?_) (Below.refl _) rfl (by rfl) ?_ ?_; rotate_left; (· (go_simp; try with_reducible rfl)); simp only [Act.put, List.setIfInBounds_toArray, List.set_cons_zero, List.set_cons_succ]) | (refine wpP_skip rfl (by rfl) ?_; simp only [Act.put, List.setIfInBounds_toArray, List.set_cons_zero, List.set_cons_succ]) | (refine wpP_skip' (Below.refl _) rfl (by rfl) ?_; simp only [Act.put, List.setIfInBounds_toArray, List.set_cons_zero, List.set_cons_succ]))
            refine wpP_done ?_
            exact ⟨rfl, mid_of rfl (FD.trans (FB.mono FD.size))⟩
        · refine wpP_loud rfl (by rfl) ?_
          intro K hK
          have hb : Below V13.heap.size V17 (V17.alloc (.cells (H8 [l0]).toArray 27)) := (Below.refl _ _).alloc FB.size _
          have sx : Sl (V17.alloc (.cells (H8 [l0]).toArray 27)) 32 (some ⟨V17.heap.size, 0, none⟩) 1 (H8 [l0]) := Sl.new32 V17 [l0] 27 HA0.out
          refine wp_bs 1 _ rfl [l0] HA0.out rfl (by decide) (by decide) (by simp [Act.eval, Act.put]) ?_
          refine hK.out _ _ hb ?_
          clear hK K
          try simp only [Act.put, List.setIfInBounds_toArray, List.set_cons_zero, List.set_cons_succ]
          obtain ⟨px, hpx⟩ : ∃ p, p = V17.heap.size := ⟨_, rfl⟩
          rw [show Value.slice (some ⟨V17.heap.size, 0, none⟩) 1 1 = Value.slice (some ⟨px, 0, none⟩) 1 1 from by rw [hpx]]
          rw [← hpx] at sx
          clear hpx
          generalize V17.alloc (.cells (H8 [l0]).toArray 27) = V17a at *
          replace PV := PV.bel2' hb hPB
          replace BV := BV.below hb hpR
          replace SV := SV.bel2 hb hgB
          replace FB := FB.trans hb
          clear hb
          refine wpP_one ?_
          refine wpP_loud rfl (by rfl) ?_
          intro K hK
          have hb : Below V13.heap.size V17a (V17a.alloc (.cells #[] 27)) := (Below.refl _ _).alloc FB.size _
          have ow : Own (V17a.alloc (.cells #[] 27)) V13.heap.size 27 32 (some ⟨V17a.heap.size, 0, none⟩) 0 0 (H8 []) := Own.made V17a V13.heap.size 27 #[] FB.size (Nat.zero_le _) (by simp)
          go_simp
          refine hK.out _ _ hb ?_
          clear hK K
          try simp only [Act.put, List.setIfInBounds_toArray, List.set_cons_zero, List.set_cons_succ]
          obtain ⟨pa, hpa⟩ : ∃ p, p = V17a.heap.size := ⟨_, rfl⟩
          have hne : pa ≠ px := by
            obtain ⟨b9, o9, e9, h9⟩ := sx.some_ (by decide)
            injection e9 with e9
            injection e9 with e9
            omega
          rw [show Value.slice (some ⟨V17a.heap.size, 0, none⟩) 0 0 = Value.slice (some ⟨pa, 0, none⟩) 0 0 from by rw [hpa]]
          rw [← hpa] at ow
          replace sx := sx.alloc (.cells #[] 27)
          clear hpa
          generalize V17a.alloc (.cells #[] 27) = V17b at *
          replace PV := PV.bel2' hb hPB
          replace BV := BV.below hb hpR
          replace SV := SV.bel2 hb hgB
          replace FB := FB.trans hb
          clear hb
          refine wpP_one ?_
          refine wpP_loud rfl (by rfl) ?_
          intro K hK
          refine wp_app _ _ _ _ elH rfl rfl ow rfl PV (H8_one _) (by omega) (by omega) FB.size ?_
          intro A4 c4 V17c g4
          have ow4 : Own V17c V13.heap.size 27 32 A4 m c4 (H8 p) := by have := g4.own; simpa [H8] using this
          have hb : Below V13.heap.size V17b V17c := g4.below ow FB.size
          rw [Nat.zero_add]
          refine hK.out _ _ hb ?_
          clear hK K
          try simp only [Act.put, List.setIfInBounds_toArray, List.set_cons_zero, List.set_cons_succ]
          replace sx := sx.but g4.grow (by intro e; injection e with e; exact hne e.symm)
          clear g4 ow
          replace PV := PV.bel2' hb hPB
          replace BV := BV.below hb hpR
          replace SV := SV.bel2 hb hgB
          replace FB := FB.trans hb
          clear hb
          refine wpP_one ?_
          refine wpP_loud rfl (by rfl) ?_
          intro K hK
          refine wp_app _ _ _ _ elH rfl rfl ow4 rfl sx (H8_one _) (by omega) (by omega) FB.size ?_
          intro A5 c5 V18 g5
          have ow5 : Sl V18 32 A5 (m + 1) (H8 (p ++ [l0])) := by have := g5.own.sl; rw [H8_app_]; exact this
          have hb : Below V13.heap.size V17c V18 := g5.below ow4 FB.size
          refine hK.out _ _ hb ?_
          clear hK K
          try simp only [Act.put, List.setIfInBounds_toArray, List.set_cons_zero, List.set_cons_succ]
          clear g5 ow4 sx
          replace FB := FB.trans hb
          clear hb
          (refine wpP_one ?_; refine wpP_loud rfl (by rfl) ?_; intro K hK; go_simp)
          refine (verify_any cm li (n : Int) (i : Int) A5 (m + 1) c5 (p ++ [l0]) V18 HCM.out HI.out PA2.out HMP2.out ow5 (by omega) (by omega) (by omega) (by omega)).mono ?_
          rintro e V19 ⟨rfl, hV⟩
          rw [VLONG.out]
          refine hK.out _ _ (hV.mono FB.size) ?_
          clear hK K
          try simp only [Act.put, List.setIfInBounds_toArray, List.set_cons_zero, List.set_cons_succ]
          replace FB := FB.trans (hV.mono FB.size)
          clear hV ow5
          repeat (first | (refine wpP_quiet (v := ?_) rfl (by rfl) ?_ ?_; rotate_left; (· (intro w' hw'; go_simp; try with_reducible rfl)); simp only [Act.put, List.setIfInBounds_toArray, List.set_cons_zero, List.set_cons_succ]) | (refine wpP_val (v := ?_) (Below.refl _) rfl (by rfl) ?_ ?_; rotate_left; (· (go_simp; try with_reducible rfl)); simp only [Act.put, List.setIfInBounds_toArray, List.set_cons_zero, List.set_cons_succ]) | (refine wpP_skip rfl (by rfl) ?_; simp only [Act.put, List.setIfInBounds_toArray, List.set_cons_zero, List.set_cons_succ]) | (refine wpP_skip' (Below.refl _) rfl (by rfl) ?_; simp only [Act.put, List.setIfInBounds_toArray, List.set_cons_zero, List.set_cons_succ]))
          refine wpP_done ?_
          exact ⟨rfl, mid_of rfl (FD.trans (FB.mono FD.size))⟩
      · rintro e aa V20 ⟨rfl, u, rfl, fb⟩
        replace FV := FV.trans (fb.mono FV.size)
        replace BV := BV.to fb
        replace SV := SV.to fb
        replace PV := PV.to fb
        clear fb
        by_cases hm0 : m = 0
        · have hn0 := PN.out.1 hm0
          have tm : (m : Int) = 0 := by omega
          have tn : (n : Int) = 1 := by omega
          have hcl := Lib.hid (C1 hn0).out
          have eq1 := eq_hash cm l0 HCM.out H0.out
          rw [decide_eq_true hcl.out] at eq1
          go_wp2_with fail
          refine wp_region_C [(0, false), (1, false), (2, false), (3, true), (4, false), (5, false), (6, false), (7, false), (8, false), (9, false)] RBel (by kernel_rfl) (by kernel_rfl) (by kernel_rfl) (by decide) RBel.refl_ RBel.trans_ (by intro d v c a w h; cases d <;> exact h) ?_
          replace BV : Blk V20.drew pR 27 (B8 cm) := BV
          replace FV : Below w.heap.size w V20.drew := FV.drew
          replace SV := SV.drew
          replace PV := PV.drew
          generalize V20.drew = V21 at *
          repeat (first | (refine wpC_quiet (v := ?_) rfl (by rfl) ?_ ?_; rotate_left; (· (intro w' hw'; go_simp; try with_reducible rfl)); simp only [Act.put, List.setIfInBounds_toArray, List.set_cons_zero, List.set_cons_succ]) | (refine wpC_val (v := ?_) (RBel.refl_) rfl (by rfl) ?_ ?_; rotate_left; (· (go_simp; try with_reducible rfl)); simp only [Act.put, List.setIfInBounds_toArray, List.set_cons_zero, List.set_cons_succ]) | (refine wpC_skip rfl (by rfl) ?_; simp only [Act.put, List.setIfInBounds_toArray, List.set_cons_zero, List.set_cons_succ]) | (refine wpC_skip' (RBel.refl_) rfl (by rfl) ?_; simp only [Act.put, List.setIfInBounds_toArray, List.set_cons_zero, List.set_cons_succ]))
          refine wpC_load rfl (by rfl) _ _ rfl pR 0 rfl (B8 cm) _ (fun w' hw' => LR BV hw') Try.underlying27 rfl (info_hash HCM.out) ?_
          simp only [Act.put, List.setIfInBounds_toArray, List.set_cons_zero, List.set_cons_succ]
          repeat (first | (refine wpC_quiet (v := ?_) rfl (by rfl) ?_ ?_; rotate_left; (· (intro w' hw'; go_simp; try with_reducible rfl)); simp only [Act.put, List.setIfInBounds_toArray, List.set_cons_zero, List.set_cons_succ]) | (refine wpC_val (v := ?_) (RBel.refl_) rfl (by rfl) ?_ ?_; rotate_left; (· (go_simp; try with_reducible rfl)); simp only [Act.put, List.setIfInBounds_toArray, List.set_cons_zero, List.set_cons_succ]) | (refine wpC_skip rfl (by rfl) ?_; simp only [Act.put, List.setIfInBounds_toArray, List.set_cons_zero, List.set_cons_succ]) | (refine wpC_skip' (RBel.refl_) rfl (by rfl) ?_; simp only [Act.put, List.setIfInBounds_toArray, List.set_cons_zero, List.set_cons_succ]))
          refine wpC_load_f RBel.refl_ rfl (by rfl) _ _ rfl g 0 rfl (B8 l0) _ (LO SV (RBel.refl_ _)) Try.underlying27 rfl (info_hash H0.out) ?_
          simp only [Act.put, List.setIfInBounds_toArray, List.set_cons_zero, List.set_cons_succ]
          clear LR LI LO LR2 LI2 LO2
          repeat (first | (refine wpC_quiet (v := ?_) rfl (by rfl) ?_ ?_; rotate_left; (· (intro w' hw'; go_simp; try with_reducible rfl)); simp only [Act.put, List.setIfInBounds_toArray, List.set_cons_zero, List.set_cons_succ]) | (refine wpC_val (v := ?_) (RBel.refl_) rfl (by rfl) ?_ ?_; rotate_left; (· (go_simp; try with_reducible rfl)); simp only [Act.put, List.setIfInBounds_toArray, List.set_cons_zero, List.set_cons_succ]) | (refine wpC_skip rfl (by rfl) ?_; simp only [Act.put, List.setIfInBounds_toArray, List.set_cons_zero, List.set_cons_succ]) | (refine wpC_skip' (RBel.refl_) rfl (by rfl) ?_; simp only [Act.put, List.setIfInBounds_toArray, List.set_cons_zero, List.set_cons_succ]))
          clear eq1
          refine wpC_nil ?_
          go_wp2_with fail
          go_ret
          exact ⟨rfl, FV⟩
        · have tm : ¬ (m : Int) = 0 := by omega
          have tmn : ¬ m = 0 := hm0
          go_wp2_with (first
            | (at_builtin
               refine wpl_app _ _ _ _ elH rfl rfl rfl (Own.made V20 V20.heap.size 27 #[] (Nat.le_refl _) (Nat.zero_le _) (by simp)) rfl (PV.alloc _) (H8_one _) (by omega) (by omega) (by simp) ?_
               intro A6 c6 V21 g6
               have ow6 : Own V21 V20.heap.size 27 32 A6 m c6 (H8 p) := by have := g6.own; simpa [H8] using this
               have h6 : Below V20.heap.size V20 V21 := ((Below.refl _ _).alloc (Nat.le_refl _) _).trans (g6.below (Own.made V20 V20.heap.size 27 #[] (Nat.le_refl _) (Nat.zero_le _) (by simp)) (by simp))
               rw [Nat.zero_add]
               clear g6))
          have hw20 : w.heap.size ≤ V20.heap.size := FV.size
          replace FV := FV.trans (h6.mono FV.size)
          have hgN := BV.lt
          replace BV := BV.to h6
          have hgS : g < V20.heap.size := by
            obtain ⟨b9, o9, e9, h9⟩ := SV.some_ (by omega)
            injection e9 with e9
            injection e9 with e9
            omega
          have hpS : ∀ b', A3.map (·.block) = some b' → b' < V20.heap.size := by
            intro b' hb'
            obtain ⟨b9, o9, e9, h9⟩ := PV.some_ (by omega)
            subst e9
            simp at hb'
            omega
          replace SV := SV.to h6
          replace PV := PV.to h6
          have hle6 := ow6.le
          obtain ⟨gq, rest, rfl, hgq, bq, hrq⟩ := own_row ow6 (by omega)
          have HRQ := Lib.hid hrq
          have hc66 : c6 ≤ 9223372036854775807 := by have := hle6.2; simp only [maxLen] at this; omega
          clear h6 ow6 hrq
          go_wp2_with fail
          refine wp_region_C [(0, true), (1, true), (2, true), (3, true), (5, true), (6, true), (4, false), (8, true), (12, true), (7, false), (9, false), (10, false), (11, false), (13, false), (14, false)] (RBut (some gq)) (by kernel_rfl) (by kernel_rfl) (by kernel_rfl) (by decide) (RBut.refl_ _) (RBut.trans_ _) (by intro d v c a w h; cases d <;> exact h) ?_
          replace bq : Blk V21.drew gq 27 (H8 p ++ rest) := bq
          replace BV : Blk V21.drew pR 27 (B8 cm) := BV
          replace FV : Below w.heap.size w V21.drew := FV.drew
          replace SV := SV.drew
          replace PV := PV.drew
          generalize V21.drew = V22 at *
          repeat (first | (refine wpC_quiet (v := ?_) rfl (by rfl) ?_ ?_; rotate_left; (· (intro w' hw'; go_simp; try with_reducible rfl)); simp only [Act.put, List.setIfInBounds_toArray, List.set_cons_zero, List.set_cons_succ]) | (refine wpC_val (v := ?_) (RBut.refl_ _) rfl (by rfl) ?_ ?_; rotate_left; (· (go_simp; try with_reducible rfl)); simp only [Act.put, List.setIfInBounds_toArray, List.set_cons_zero, List.set_cons_succ]) | (refine wpC_skip rfl (by rfl) ?_; simp only [Act.put, List.setIfInBounds_toArray, List.set_cons_zero, List.set_cons_succ]) | (refine wpC_skip' (RBut.refl_ _) rfl (by rfl) ?_; simp only [Act.put, List.setIfInBounds_toArray, List.set_cons_zero, List.set_cons_succ]))
          (refine wpC_loud rfl (by rfl) ?_; intro K hK; go_simp)
          refine (within_capstanlaw12 t (m : Int) V22 (by omega) (by omega) t_lo t_hi).mono ?_
          rintro e V22' ⟨rfl, rfl⟩
          obtain ⟨kk, hkk⟩ : ∃ k : Nat, t % (m : Int) = (k : Int) := ⟨(t % (m : Int)).toNat, by have := Int.emod_nonneg t (show (m : Int) ≠ 0 by omega); omega⟩
          have hkm : kk < m := by have := Int.emod_lt_of_pos t (show 0 < (m : Int) by omega); omega
          rw [hkk]
          clear hkk
          (refine hK.out _ _ (RBut.refl_ _ _) ?_; clear hK K; try simp only [Act.put, List.setIfInBounds_toArray, List.set_cons_zero, List.set_cons_succ])
          have tkm : (kk : Int) < (m : Int) := by omega
          repeat (first | (refine wpC_quiet (v := ?_) rfl (by rfl) ?_ ?_; rotate_left; (· (intro w' hw'; go_simp; try with_reducible rfl)); simp only [Act.put, List.setIfInBounds_toArray, List.set_cons_zero, List.set_cons_succ]) | (refine wpC_val (v := ?_) (RBut.refl_ _) rfl (by rfl) ?_ ?_; rotate_left; (· (go_simp; try with_reducible rfl)); simp only [Act.put, List.setIfInBounds_toArray, List.set_cons_zero, List.set_cons_succ]) | (refine wpC_skip rfl (by rfl) ?_; simp only [Act.put, List.setIfInBounds_toArray, List.set_cons_zero, List.set_cons_succ]) | (refine wpC_skip' (RBut.refl_ _) rfl (by rfl) ?_; simp only [Act.put, List.setIfInBounds_toArray, List.set_cons_zero, List.set_cons_succ]))
          obtain ⟨q7, hq7, q7a, q7b⟩ : ∃ q7 : Int, IntKind.i64.wrap (t.tdiv 7) = q7 ∧ -9223372036854775808 ≤ q7 ∧ q7 < 9223372036854775808 := ⟨_, rfl, (wrap_in _).1, (wrap_in _).2⟩
          rw [hq7]
          clear hq7
          (refine wpC_loud rfl (by rfl) ?_; intro K hK; go_simp)
          refine (within_capstanlaw12 q7 32 V22 (by omega) (by omega) q7a q7b).mono ?_
          rintro e V22' ⟨rfl, rfl⟩
          obtain ⟨bb, hbb⟩ : ∃ k : Nat, q7 % 32 = (k : Int) := ⟨(q7 % 32).toNat, by omega⟩
          have hb32 : bb < 32 := by omega
          rw [hbb]
          clear hbb
          (refine hK.out _ _ (RBut.refl_ _ _) ?_; clear hK K; try simp only [Act.put, List.setIfInBounds_toArray, List.set_cons_zero, List.set_cons_succ])
          obtain ⟨z, hz⟩ : ∃ z, p[kk]? = some z := ⟨_, List.getElem?_eq_getElem (by rw [HMP.out]; exact hkm)⟩
          have hz32 := PA.out z (List.mem_of_getElem? hz)
          obtain ⟨zb, hzb⟩ : ∃ x, z[bb]? = some x := ⟨_, List.getElem?_eq_getElem (by rw [hz32]; exact hb32)⟩
          have cz : V22.cell? ⟨gq, kk * 32 + bb, none⟩ = some (.int .u8 (zb.toNat : Int)) := by
            rw [bq.cell, List.getElem?_append_left]
            · exact H8_range p PA.out kk z hz bb _ (by rw [B8, List.getElem?_map, hzb]; rfl)
            · rw [H8_len p PA.out, HMP.out]; omega
          have HZ := Lib.hid hz
          have HZ32 := Lib.hid hz32
          have HZB := Lib.hid hzb
          have tbb : (bb : Int) < 32 := by omega
          clear hz hz32 hzb
          repeat (first | (refine wpC_quiet (v := ?_) rfl (by rfl) ?_ ?_; rotate_left; (· (intro w' hw'; go_simp; try with_reducible rfl)); simp only [Act.put, List.setIfInBounds_toArray, List.set_cons_zero, List.set_cons_succ]) | (refine wpC_val (v := ?_) (RBut.refl_ _) rfl (by rfl) ?_ ?_; rotate_left; (· (go_simp; try with_reducible rfl)); simp only [Act.put, List.setIfInBounds_toArray, List.set_cons_zero, List.set_cons_succ]) | (refine wpC_skip rfl (by rfl) ?_; simp only [Act.put, List.setIfInBounds_toArray, List.set_cons_zero, List.set_cons_succ]) | (refine wpC_skip' (RBut.refl_ _) rfl (by rfl) ?_; simp only [Act.put, List.setIfInBounds_toArray, List.set_cons_zero, List.set_cons_succ]))
          obtain ⟨y8, hy8⟩ : ∃ y8 : UInt8, IntKind.u8.wrap ((zb.toNat : Int) + 1) = (y8.toNat : Int) := ⟨zb + 1, by
            rw [UInt8.toNat_add]
            simp [IntKind.wrap, IntKind.signed, IntKind.bits]⟩
          rw [hy8]
          clear hy8 cz
          have HPB2 := Lib.hid (put_byte p rest kk bb z y8 PA.out HZ.out (by rw [HZ32.out]; exact hb32))
          have HQA : Hid (∀ x ∈ p.set kk (z.set bb y8), x.length = 32) := (show ∀ x ∈ p.set kk (z.set bb y8), x.length = 32 from by
            intro x hx
            rcases List.mem_or_eq_of_mem_set hx with h | h
            · exact PA.out x h
            · rw [h, List.length_set]; exact HZ32.out)
          have HQN : Hid ((p.set kk (z.set bb y8)).length = m) := (show _ = _ by rw [List.length_set]; exact HMP.out)
          refine wpC_store_fld rfl (by rfl) _ _ _ rfl gq (kk * 32 + bb) _ _ [.int .u8 (y8.toNat : Int)] rfl _ rfl rfl bq (by rw [List.length_append, H8_len p PA.out, HMP.out]; simp; omega) (by kernel_rfl) one_int (fun w' h => h) ?_
          intro V23 bq3 uq
          rw [HPB2.out] at bq3
          simp only [Act.put, List.setIfInBounds_toArray, List.set_cons_zero, List.set_cons_succ]
          replace FV := FV.trans (below_but uq (by omega) FV.size)
          replace BV := BV.but uq (by intro e; injection e; omega)
          replace SV := SV.but uq (by intro e; injection e; omega)
          replace PV := PV.but2 uq (by intro b' hb' e; injection e with e; have := hpS b' hb'; omega)
          clear bq uq HPB2
          generalize p.set kk (z.set bb y8) = pq at *
          have SQ : Sl V23 32 (some ⟨gq, 0, none⟩) m (H8 pq) := by
            refine ⟨by rw [H8_len pq HQA.out, HQN.out]; omega, fun _ => ⟨gq, 0, rfl, bq3.lt, fun j u hu => ?_⟩⟩
            rw [Nat.zero_add, bq3.cell]
            rw [List.getElem?_append_left (List.getElem?_eq_some_iff.1 hu).1]
            exact hu
          clear bq3
          refine wpC_nil ?_
          go_wp2_with fail
          refine wp_region_C [(0, true), (1, true), (2, true), (3, true), (4, true), (5, true), (6, true), (7, true), (9, true), (10, true), (11, true), (12, true), (13, true), (14, true), (15, true), (16, true), (8, false), (17, false), (18, false), (19, false), (20, true), (21, true), (22, true), (23, true), (24, true), (25, true), (26, true), (27, true), (28, false), (29, false), (30, false), (31, false), (32, false), (33, false), (34, false), (35, false)] RBel (by kernel_rfl) (by kernel_rfl) (by kernel_rfl) (by decide) RBel.refl_ RBel.trans_ (by intro d v c a w h; cases d <;> exact h) ?_
          replace SQ := SQ.drew
          replace BV : Blk V23.drew pR 27 (B8 cm) := BV
          replace FV : Below w.heap.size w V23.drew := FV.drew
          replace SV := SV.drew
          replace PV := PV.drew
          generalize V23.drew = V24 at *
          repeat (first | (refine wpC_quiet (v := ?_) rfl (by rfl) ?_ ?_; rotate_left; (· (intro w' hw'; go_simp; try with_reducible rfl)); simp only [Act.put, List.setIfInBounds_toArray, List.set_cons_zero, List.set_cons_succ]) | (refine wpC_val (v := ?_) (RBel.refl_) rfl (by rfl) ?_ ?_; rotate_left; (· (go_simp; try with_reducible rfl)); simp only [Act.put, List.setIfInBounds_toArray, List.set_cons_zero, List.set_cons_succ]) | (refine wpC_skip rfl (by rfl) ?_; simp only [Act.put, List.setIfInBounds_toArray, List.set_cons_zero, List.set_cons_succ]) | (refine wpC_skip' (RBel.refl_) rfl (by rfl) ?_; simp only [Act.put, List.setIfInBounds_toArray, List.set_cons_zero, List.set_cons_succ]))
          refine wpC_load rfl (by rfl) _ _ rfl pR 0 rfl (B8 cm) _ (fun w' hw' => LR BV hw') Try.underlying27 rfl (info_hash HCM.out) ?_
          simp only [Act.put, List.setIfInBounds_toArray, List.set_cons_zero, List.set_cons_succ]
          repeat (first | (refine wpC_quiet (v := ?_) rfl (by rfl) ?_ ?_; rotate_left; (· (intro w' hw'; go_simp; try with_reducible rfl)); simp only [Act.put, List.setIfInBounds_toArray, List.set_cons_zero, List.set_cons_succ]) | (refine wpC_val (v := ?_) (RBel.refl_) rfl (by rfl) ?_ ?_; rotate_left; (· (go_simp; try with_reducible rfl)); simp only [Act.put, List.setIfInBounds_toArray, List.set_cons_zero, List.set_cons_succ]) | (refine wpC_skip rfl (by rfl) ?_; simp only [Act.put, List.setIfInBounds_toArray, List.set_cons_zero, List.set_cons_succ]) | (refine wpC_skip' (RBel.refl_) rfl (by rfl) ?_; simp only [Act.put, List.setIfInBounds_toArray, List.set_cons_zero, List.set_cons_succ]))
          refine wpC_load rfl (by rfl) _ _ rfl g (i * 32) rfl (B8 li) _ (fun w' hw' => LI SV hw') Try.underlying27 rfl (info_hash HI.out) ?_
          simp only [Act.put, List.setIfInBounds_toArray, List.set_cons_zero, List.set_cons_succ]
          repeat (first | (refine wpC_quiet (v := ?_) rfl (by rfl) ?_ ?_; rotate_left; (· (intro w' hw'; go_simp; try with_reducible rfl)); simp only [Act.put, List.setIfInBounds_toArray, List.set_cons_zero, List.set_cons_succ]) | (refine wpC_val (v := ?_) (RBel.refl_) rfl (by rfl) ?_ ?_; rotate_left; (· (go_simp; try with_reducible rfl)); simp only [Act.put, List.setIfInBounds_toArray, List.set_cons_zero, List.set_cons_succ]) | (refine wpC_skip rfl (by rfl) ?_; simp only [Act.put, List.setIfInBounds_toArray, List.set_cons_zero, List.set_cons_succ]) | (refine wpC_skip' (RBel.refl_) rfl (by rfl) ?_; simp only [Act.put, List.setIfInBounds_toArray, List.set_cons_zero, List.set_cons_succ]))
          refine wpC_load rfl (by rfl) _ _ rfl pR 0 rfl (B8 cm) _ (fun w' hw' => LR BV hw') Try.underlying27 rfl (info_hash HCM.out) ?_
          simp only [Act.put, List.setIfInBounds_toArray, List.set_cons_zero, List.set_cons_succ]
          repeat (first | (refine wpC_quiet (v := ?_) rfl (by rfl) ?_ ?_; rotate_left; (· (intro w' hw'; go_simp; try with_reducible rfl)); simp only [Act.put, List.setIfInBounds_toArray, List.set_cons_zero, List.set_cons_succ]) | (refine wpC_val (v := ?_) (RBel.refl_) rfl (by rfl) ?_ ?_; rotate_left; (· (go_simp; try with_reducible rfl)); simp only [Act.put, List.setIfInBounds_toArray, List.set_cons_zero, List.set_cons_succ]) | (refine wpC_skip rfl (by rfl) ?_; simp only [Act.put, List.setIfInBounds_toArray, List.set_cons_zero, List.set_cons_succ]) | (refine wpC_skip' (RBel.refl_) rfl (by rfl) ?_; simp only [Act.put, List.setIfInBounds_toArray, List.set_cons_zero, List.set_cons_succ]))
          refine wpC_load rfl (by rfl) _ _ rfl g (i * 32) rfl (B8 li) _ (fun w' hw' => LI SV hw') Try.underlying27 rfl (info_hash HI.out) ?_
          simp only [Act.put, List.setIfInBounds_toArray, List.set_cons_zero, List.set_cons_succ]
          repeat (first | (refine wpC_quiet (v := ?_) rfl (by rfl) ?_ ?_; rotate_left; (· (intro w' hw'; go_simp; try with_reducible rfl)); simp only [Act.put, List.setIfInBounds_toArray, List.set_cons_zero, List.set_cons_succ]) | (refine wpC_val (v := ?_) (RBel.refl_) rfl (by rfl) ?_ ?_; rotate_left; (· (go_simp; try with_reducible rfl)); simp only [Act.put, List.setIfInBounds_toArray, List.set_cons_zero, List.set_cons_succ]) | (refine wpC_skip rfl (by rfl) ?_; simp only [Act.put, List.setIfInBounds_toArray, List.set_cons_zero, List.set_cons_succ]) | (refine wpC_skip' (RBel.refl_) rfl (by rfl) ?_; simp only [Act.put, List.setIfInBounds_toArray, List.set_cons_zero, List.set_cons_succ]))
          obtain ⟨vb, hvb⟩ : ∃ vb, vb = verS cm (n : Int) (i : Int) li pq := ⟨_, rfl⟩
          (refine wpC_loud rfl (by rfl) ?_; intro K hK; go_simp)
          refine (verify_any cm li (n : Int) (i : Int) (some ⟨gq, 0, none⟩) m c6 pq V24 HCM.out HI.out HQA.out HQN.out SQ (by omega) (by omega) (by omega) (by omega)).mono ?_
          rintro e V25 ⟨rfl, hV⟩
          rw [← hvb]
          (refine hK.out _ _ (hV) ?_; clear hK K; try simp only [Act.put, List.setIfInBounds_toArray, List.set_cons_zero, List.set_cons_succ])
          replace FV := FV.trans (hV.mono FV.size)
          replace BV := BV.to hV
          replace SV := SV.to hV
          replace PV := PV.to hV
          replace SQ := SQ.to hV
          clear hV
          (refine wpC_loud rfl (by rfl) ?_; intro K hK; go_simp)
          refine (refVerify_any cm li (n : Int) (i : Int) (some ⟨gq, 0, none⟩) m c6 pq V25 HCM.out HI.out HQA.out HQN.out hle6.1 hle6.2 SQ (by omega) (by omega) (by omega) (by omega)).mono ?_
          rintro e V26 ⟨rfl, hV⟩
          rw [← hvb]
          clear hvb
          (refine hK.out _ _ (hV) ?_; clear hK K; try simp only [Act.put, List.setIfInBounds_toArray, List.set_cons_zero, List.set_cons_succ])
          replace FV := FV.trans (hV.mono FV.size)
          replace BV := BV.to hV
          replace SV := SV.to hV
          replace PV := PV.to hV
          clear hV
          repeat (first | (refine wpC_quiet (v := ?_) rfl (by rfl) ?_ ?_; rotate_left; (· (intro w' hw'; go_simp; try with_reducible rfl)); simp only [Act.put, List.setIfInBounds_toArray, List.set_cons_zero, List.set_cons_succ]) | (refine wpC_val (v := ?_) (RBel.refl_) rfl (by rfl) ?_ ?_; rotate_left; (· (go_simp; try with_reducible rfl)); simp only [Act.put, List.setIfInBounds_toArray, List.set_cons_zero, List.set_cons_succ]) | (refine wpC_skip rfl (by rfl) ?_; simp only [Act.put, List.setIfInBounds_toArray, List.set_cons_zero, List.set_cons_succ]) | (refine wpC_skip' (RBel.refl_) rfl (by rfl) ?_; simp only [Act.put, List.setIfInBounds_toArray, List.set_cons_zero, List.set_cons_succ]))
          refine wpC_load rfl (by rfl) _ _ rfl pR 0 rfl (B8 cm) _ (fun w' hw' => LR BV hw') Try.underlying27 rfl (info_hash HCM.out) ?_
          simp only [Act.put, List.setIfInBounds_toArray, List.set_cons_zero, List.set_cons_succ]
          repeat (first | (refine wpC_quiet (v := ?_) rfl (by rfl) ?_ ?_; rotate_left; (· (intro w' hw'; go_simp; try with_reducible rfl)); simp only [Act.put, List.setIfInBounds_toArray, List.set_cons_zero, List.set_cons_succ]) | (refine wpC_val (v := ?_) (RBel.refl_) rfl (by rfl) ?_ ?_; rotate_left; (· (go_simp; try with_reducible rfl)); simp only [Act.put, List.setIfInBounds_toArray, List.set_cons_zero, List.set_cons_succ]) | (refine wpC_skip rfl (by rfl) ?_; simp only [Act.put, List.setIfInBounds_toArray, List.set_cons_zero, List.set_cons_succ]) | (refine wpC_skip' (RBel.refl_) rfl (by rfl) ?_; simp only [Act.put, List.setIfInBounds_toArray, List.set_cons_zero, List.set_cons_succ]))
          refine wpC_load rfl (by rfl) _ _ rfl g (i * 32) rfl (B8 li) _ (fun w' hw' => LI SV hw') Try.underlying27 rfl (info_hash HI.out) ?_
          simp only [Act.put, List.setIfInBounds_toArray, List.set_cons_zero, List.set_cons_succ]
          have um : (m : Int) - 1 = ((m - 1 : Nat) : Int) := by omega
          have um2 : IntKind.i64.wrap ((m - 1 : Nat) : Int) = ((m - 1 : Nat) : Int) := IntWalk.i64_in _ (by omega)
          have um3 : ((m - 1 : Nat) : Int) ≤ (c3 : Int) := by omega
          repeat (first | (refine wpC_quiet (v := ?_) rfl (by rfl) ?_ ?_; rotate_left; (· (intro w' hw'; go_simp; try with_reducible rfl)); simp only [Act.put, List.setIfInBounds_toArray, List.set_cons_zero, List.set_cons_succ]) | (refine wpC_val (v := ?_) (RBel.refl_) rfl (by rfl) ?_ ?_; rotate_left; (· (go_simp; try with_reducible rfl)); simp only [Act.put, List.setIfInBounds_toArray, List.set_cons_zero, List.set_cons_succ]) | (refine wpC_skip rfl (by rfl) ?_; simp only [Act.put, List.setIfInBounds_toArray, List.set_cons_zero, List.set_cons_succ]) | (refine wpC_skip' (RBel.refl_) rfl (by rfl) ?_; simp only [Act.put, List.setIfInBounds_toArray, List.set_cons_zero, List.set_cons_succ]))
          have sf := PV.front32 PA.out (k := m - 1) (by omega)
          (refine wpC_loud rfl (by rfl) ?_; intro K hK; go_simp)
          refine (verify_any cm li (n : Int) (i : Int) A3 (m - 1) c3 (p.take (m - 1)) V26 HCM.out HI.out (len32_take PA.out _) (by rw [List.length_take, HMP.out]; omega) sf (by omega) (by omega) (by omega) (by omega)).mono ?_
          rintro e V27 ⟨rfl, hV⟩
          rw [(VSHORT hm0).out]
          (refine hK.out _ _ (hV) ?_; clear hK K; try simp only [Act.put, List.setIfInBounds_toArray, List.set_cons_zero, List.set_cons_succ])
          replace FV := FV.trans (hV.mono FV.size)
          replace BV := BV.to hV
          replace SV := SV.to hV
          replace PV := PV.to hV
          clear hV
          repeat (first | (refine wpC_quiet (v := ?_) rfl (by rfl) ?_ ?_; rotate_left; (· (intro w' hw'; go_simp; try with_reducible rfl)); simp only [Act.put, List.setIfInBounds_toArray, List.set_cons_zero, List.set_cons_succ]) | (refine wpC_val (v := ?_) (RBel.refl_) rfl (by rfl) ?_ ?_; rotate_left; (· (go_simp; try with_reducible rfl)); simp only [Act.put, List.setIfInBounds_toArray, List.set_cons_zero, List.set_cons_succ]) | (refine wpC_skip rfl (by rfl) ?_; simp only [Act.put, List.setIfInBounds_toArray, List.set_cons_zero, List.set_cons_succ]) | (refine wpC_skip' (RBel.refl_) rfl (by rfl) ?_; simp only [Act.put, List.setIfInBounds_toArray, List.set_cons_zero, List.set_cons_succ]))
          refine wpC_nil ?_
          go_wp2_with fail
          go_ret
          exact ⟨rfl, FV⟩
        
    · have t9 : ¬ (i : Int) = (j : Int) := by omega
      have t10 : ((i : Int) == (j : Int)) = false := by simpa using t9
      have t11 : ((i : Int) != (j : Int)) = true := by simpa using t9
      have BV0 := BV
      have FV0 := FV
      have SV0 := SV
      have PV0 := PV
      clear BV FV SV PV
      refine wp_region_C [(0, true), (1, true), (2, true), (3, true), (4, true), (5, true), (6, true), (7, true), (9, true), (10, true), (11, true), (8, false), (12, false), (13, false), (14, true), (15, true), (16, true), (17, true), (18, true), (19, true), (20, true), (21, true), (23, true), (24, true), (25, true), (22, false), (26, false), (27, false)] RBel (by kernel_rfl) (by kernel_rfl) (by kernel_rfl) (by decide) RBel.refl_ RBel.trans_ (by intro d v c a w h; cases d <;> exact h) ?_
      have BV : Blk V9.drew pR 27 (B8 cm) := BV0
      have FV : Below w.heap.size w V9.drew := FV0.drew
      have SV := SV0.drew
      have PV := PV0.drew
      clear BV0 FV0 SV0 PV0
      generalize V9.drew = V10 at *
      repeat (first | (refine wpC_quiet (v := ?_) rfl (by rfl) ?_ ?_; rotate_left; (· (intro w' hw'; go_simp; try with_reducible rfl)); simp only [Act.put, List.setIfInBounds_toArray, List.set_cons_zero, List.set_cons_succ]) | (refine wpC_val (v := ?_) (RBel.refl_) rfl (by rfl) ?_ ?_; rotate_left; (· (go_simp; try with_reducible rfl)); simp only [Act.put, List.setIfInBounds_toArray, List.set_cons_zero, List.set_cons_succ]) | (refine wpC_skip rfl (by rfl) ?_; simp only [Act.put, List.setIfInBounds_toArray, List.set_cons_zero, List.set_cons_succ]) | (refine wpC_skip' (RBel.refl_) rfl (by rfl) ?_; simp only [Act.put, List.setIfInBounds_toArray, List.set_cons_zero, List.set_cons_succ]))
      refine wpC_load rfl (by rfl) _ _ rfl pR 0 rfl (B8 cm) _ (fun w' hw' => LR BV hw') Try.underlying27 rfl (info_hash HCM.out) ?_
      simp only [Act.put, List.setIfInBounds_toArray, List.set_cons_zero, List.set_cons_succ]
      repeat (first | (refine wpC_quiet (v := ?_) rfl (by rfl) ?_ ?_; rotate_left; (· (intro w' hw'; go_simp; try with_reducible rfl)); simp only [Act.put, List.setIfInBounds_toArray, List.set_cons_zero, List.set_cons_succ]) | (refine wpC_val (v := ?_) (RBel.refl_) rfl (by rfl) ?_ ?_; rotate_left; (· (go_simp; try with_reducible rfl)); simp only [Act.put, List.setIfInBounds_toArray, List.set_cons_zero, List.set_cons_succ]) | (refine wpC_skip rfl (by rfl) ?_; simp only [Act.put, List.setIfInBounds_toArray, List.set_cons_zero, List.set_cons_succ]) | (refine wpC_skip' (RBel.refl_) rfl (by rfl) ?_; simp only [Act.put, List.setIfInBounds_toArray, List.set_cons_zero, List.set_cons_succ]))
      refine wpC_load rfl (by rfl) _ _ rfl g (i * 32) rfl (B8 li) _ (fun w' hw' => LI SV hw') Try.underlying27 rfl (info_hash HI.out) ?_
      simp only [Act.put, List.setIfInBounds_toArray, List.set_cons_zero, List.set_cons_succ]
      repeat (first | (refine wpC_quiet (v := ?_) rfl (by rfl) ?_ ?_; rotate_left; (· (intro w' hw'; go_simp; try with_reducible rfl)); simp only [Act.put, List.setIfInBounds_toArray, List.set_cons_zero, List.set_cons_succ]) | (refine wpC_val (v := ?_) (RBel.refl_) rfl (by rfl) ?_ ?_; rotate_left; (· (go_simp; try with_reducible rfl)); simp only [Act.put, List.setIfInBounds_toArray, List.set_cons_zero, List.set_cons_succ]) | (refine wpC_skip rfl (by rfl) ?_; simp only [Act.put, List.setIfInBounds_toArray, List.set_cons_zero, List.set_cons_succ]) | (refine wpC_skip' (RBel.refl_) rfl (by rfl) ?_; simp only [Act.put, List.setIfInBounds_toArray, List.set_cons_zero, List.set_cons_succ]))
      (refine wpC_loud rfl (by rfl) ?_; intro K hK; go_simp)
      refine (refVerify_any cm li (n : Int) (j : Int) A3 m c3 p V10 HCM.out HI.out PA.out HMP.out hlp.1 hlp.2 (PV) (by omega) (by omega) (by omega) (by omega)).mono ?_
      rintro e V11 ⟨rfl, hV⟩
      rw [HV1.out]
      (refine hK.out _ _ (hV) ?_; clear hK K; try simp only [Act.put, List.setIfInBounds_toArray, List.set_cons_zero, List.set_cons_succ])
      replace FV := FV.trans (hV.mono FV.size)
      replace BV := BV.to hV
      replace SV := SV.to hV
      replace PV := PV.to hV
      clear hV
      repeat (first | (refine wpC_quiet (v := ?_) rfl (by rfl) ?_ ?_; rotate_left; (· (intro w' hw'; go_simp; try with_reducible rfl)); simp only [Act.put, List.setIfInBounds_toArray, List.set_cons_zero, List.set_cons_succ]) | (refine wpC_val (v := ?_) (RBel.refl_) rfl (by rfl) ?_ ?_; rotate_left; (· (go_simp; try with_reducible rfl)); simp only [Act.put, List.setIfInBounds_toArray, List.set_cons_zero, List.set_cons_succ]) | (refine wpC_skip rfl (by rfl) ?_; simp only [Act.put, List.setIfInBounds_toArray, List.set_cons_zero, List.set_cons_succ]) | (refine wpC_skip' (RBel.refl_) rfl (by rfl) ?_; simp only [Act.put, List.setIfInBounds_toArray, List.set_cons_zero, List.set_cons_succ]))
      refine wpC_load rfl (by rfl) _ _ rfl pR 0 rfl (B8 cm) _ (fun w' hw' => LR BV hw') Try.underlying27 rfl (info_hash HCM.out) ?_
      simp only [Act.put, List.setIfInBounds_toArray, List.set_cons_zero, List.set_cons_succ]
      repeat (first | (refine wpC_quiet (v := ?_) rfl (by rfl) ?_ ?_; rotate_left; (· (intro w' hw'; go_simp; try with_reducible rfl)); simp only [Act.put, List.setIfInBounds_toArray, List.set_cons_zero, List.set_cons_succ]) | (refine wpC_val (v := ?_) (RBel.refl_) rfl (by rfl) ?_ ?_; rotate_left; (· (go_simp; try with_reducible rfl)); simp only [Act.put, List.setIfInBounds_toArray, List.set_cons_zero, List.set_cons_succ]) | (refine wpC_skip rfl (by rfl) ?_; simp only [Act.put, List.setIfInBounds_toArray, List.set_cons_zero, List.set_cons_succ]) | (refine wpC_skip' (RBel.refl_) rfl (by rfl) ?_; simp only [Act.put, List.setIfInBounds_toArray, List.set_cons_zero, List.set_cons_succ]))
      refine wpC_load rfl (by rfl) _ _ rfl g (j * 32) rfl (B8 lj) _ (fun w' hw' => LJ SV hw') Try.underlying27 rfl (info_hash HJ.out) ?_
      simp only [Act.put, List.setIfInBounds_toArray, List.set_cons_zero, List.set_cons_succ]
      repeat (first | (refine wpC_quiet (v := ?_) rfl (by rfl) ?_ ?_; rotate_left; (· (intro w' hw'; go_simp; try with_reducible rfl)); simp only [Act.put, List.setIfInBounds_toArray, List.set_cons_zero, List.set_cons_succ]) | (refine wpC_val (v := ?_) (RBel.refl_) rfl (by rfl) ?_ ?_; rotate_left; (· (go_simp; try with_reducible rfl)); simp only [Act.put, List.setIfInBounds_toArray, List.set_cons_zero, List.set_cons_succ]) | (refine wpC_skip rfl (by rfl) ?_; simp only [Act.put, List.setIfInBounds_toArray, List.set_cons_zero, List.set_cons_succ]) | (refine wpC_skip' (RBel.refl_) rfl (by rfl) ?_; simp only [Act.put, List.setIfInBounds_toArray, List.set_cons_zero, List.set_cons_succ]))
      (refine wpC_loud rfl (by rfl) ?_; intro K hK; go_simp)
      refine (refVerify_any cm lj (n : Int) (i : Int) A3 m c3 p V11 HCM.out HJ.out PA.out HMP.out hlp.1 hlp.2 (PV) (by omega) (by omega) (by omega) (by omega)).mono ?_
      rintro e V12 ⟨rfl, hV⟩
      rw [HV2.out]
      (refine hK.out _ _ (hV) ?_; clear hK K; try simp only [Act.put, List.setIfInBounds_toArray, List.set_cons_zero, List.set_cons_succ])
      replace FV := FV.trans (hV.mono FV.size)
      replace BV := BV.to hV
      replace SV := SV.to hV
      replace PV := PV.to hV
      clear hV
      repeat (first | (refine wpC_quiet (v := ?_) rfl (by rfl) ?_ ?_; rotate_left; (· (intro w' hw'; go_simp; try with_reducible rfl)); simp only [Act.put, List.setIfInBounds_toArray, List.set_cons_zero, List.set_cons_succ]) | (refine wpC_val (v := ?_) (RBel.refl_) rfl (by rfl) ?_ ?_; rotate_left; (· (go_simp; try with_reducible rfl)); simp only [Act.put, List.setIfInBounds_toArray, List.set_cons_zero, List.set_cons_succ]) | (refine wpC_skip rfl (by rfl) ?_; simp only [Act.put, List.setIfInBounds_toArray, List.set_cons_zero, List.set_cons_succ]) | (refine wpC_skip' (RBel.refl_) rfl (by rfl) ?_; simp only [Act.put, List.setIfInBounds_toArray, List.set_cons_zero, List.set_cons_succ]))
      refine wpC_nil ?_
      go_wp2_with fail
      go_ret
      exact ⟨rfl, FV⟩
  · have t9 : ¬ (i : Int) = (j : Int) := by omega
    have t10 : ((i : Int) == (j : Int)) = false := by simpa using t9
    have t11 : ((i : Int) != (j : Int)) = true := by simpa using t9
    have BV0 := BV
    have FV0 := FV
    have SV0 := SV
    have PV0 := PV
    clear BV FV SV PV
    refine wp_region_C [(0, true), (1, true), (2, true), (3, true), (4, true), (5, true), (6, true), (7, true), (9, true), (10, true), (11, true), (8, false), (12, false), (13, false), (14, true), (15, true), (16, true), (17, true), (18, true), (19, true), (20, true), (21, true), (23, true), (24, true), (25, true), (22, false), (26, false), (27, false)] RBel (by kernel_rfl) (by kernel_rfl) (by kernel_rfl) (by decide) RBel.refl_ RBel.trans_ (by intro d v c a w h; cases d <;> exact h) ?_
    have BV : Blk V9.drew pR 27 (B8 cm) := BV0
    have FV : Below w.heap.size w V9.drew := FV0.drew
    have SV := SV0.drew
    have PV := PV0.drew
    clear BV0 FV0 SV0 PV0
    generalize V9.drew = V10 at *
    repeat (first | (refine wpC_quiet (v := ?_) rfl (by rfl) ?_ ?_; rotate_left; (· (intro w' hw'; go_simp; try with_reducible rfl)); simp only [Act.put, List.setIfInBounds_toArray, List.set_cons_zero, List.set_cons_succ]) | (refine wpC_val (v := ?_) (RBel.refl_) rfl (by rfl) ?_ ?_; rotate_left; (· (go_simp; try with_reducible rfl)); simp only [Act.put, List.setIfInBounds_toArray, List.set_cons_zero, List.set_cons_succ]) | (refine wpC_skip rfl (by rfl) ?_; simp only [Act.put, List.setIfInBounds_toArray, List.set_cons_zero, List.set_cons_succ]) | (refine wpC_skip' (RBel.refl_) rfl (by rfl) ?_; simp only [Act.put, List.setIfInBounds_toArray, List.set_cons_zero, List.set_cons_succ]))
    refine wpC_load rfl (by rfl) _ _ rfl pR 0 rfl (B8 cm) _ (fun w' hw' => LR BV hw') Try.underlying27 rfl (info_hash HCM.out) ?_
    simp only [Act.put, List.setIfInBounds_toArray, List.set_cons_zero, List.set_cons_succ]
    repeat (first | (refine wpC_quiet (v := ?_) rfl (by rfl) ?_ ?_; rotate_left; (· (intro w' hw'; go_simp; try with_reducible rfl)); simp only [Act.put, List.setIfInBounds_toArray, List.set_cons_zero, List.set_cons_succ]) | (refine wpC_val (v := ?_) (RBel.refl_) rfl (by rfl) ?_ ?_; rotate_left; (· (go_simp; try with_reducible rfl)); simp only [Act.put, List.setIfInBounds_toArray, List.set_cons_zero, List.set_cons_succ]) | (refine wpC_skip rfl (by rfl) ?_; simp only [Act.put, List.setIfInBounds_toArray, List.set_cons_zero, List.set_cons_succ]) | (refine wpC_skip' (RBel.refl_) rfl (by rfl) ?_; simp only [Act.put, List.setIfInBounds_toArray, List.set_cons_zero, List.set_cons_succ]))
    refine wpC_load rfl (by rfl) _ _ rfl g (i * 32) rfl (B8 li) _ (fun w' hw' => LI SV hw') Try.underlying27 rfl (info_hash HI.out) ?_
    simp only [Act.put, List.setIfInBounds_toArray, List.set_cons_zero, List.set_cons_succ]
    repeat (first | (refine wpC_quiet (v := ?_) rfl (by rfl) ?_ ?_; rotate_left; (· (intro w' hw'; go_simp; try with_reducible rfl)); simp only [Act.put, List.setIfInBounds_toArray, List.set_cons_zero, List.set_cons_succ]) | (refine wpC_val (v := ?_) (RBel.refl_) rfl (by rfl) ?_ ?_; rotate_left; (· (go_simp; try with_reducible rfl)); simp only [Act.put, List.setIfInBounds_toArray, List.set_cons_zero, List.set_cons_succ]) | (refine wpC_skip rfl (by rfl) ?_; simp only [Act.put, List.setIfInBounds_toArray, List.set_cons_zero, List.set_cons_succ]) | (refine wpC_skip' (RBel.refl_) rfl (by rfl) ?_; simp only [Act.put, List.setIfInBounds_toArray, List.set_cons_zero, List.set_cons_succ]))
    (refine wpC_loud rfl (by rfl) ?_; intro K hK; go_simp)
    refine (refVerify_any cm li (n : Int) (j : Int) A3 m c3 p V10 HCM.out HI.out PA.out HMP.out hlp.1 hlp.2 (PV) (by omega) (by omega) (by omega) (by omega)).mono ?_
    rintro e V11 ⟨rfl, hV⟩
    rw [HV1.out]
    (refine hK.out _ _ (hV) ?_; clear hK K; try simp only [Act.put, List.setIfInBounds_toArray, List.set_cons_zero, List.set_cons_succ])
    replace FV := FV.trans (hV.mono FV.size)
    replace BV := BV.to hV
    replace SV := SV.to hV
    replace PV := PV.to hV
    clear hV
    repeat (first | (refine wpC_quiet (v := ?_) rfl (by rfl) ?_ ?_; rotate_left; (· (intro w' hw'; go_simp; try with_reducible rfl)); simp only [Act.put, List.setIfInBounds_toArray, List.set_cons_zero, List.set_cons_succ]) | (refine wpC_val (v := ?_) (RBel.refl_) rfl (by rfl) ?_ ?_; rotate_left; (· (go_simp; try with_reducible rfl)); simp only [Act.put, List.setIfInBounds_toArray, List.set_cons_zero, List.set_cons_succ]) | (refine wpC_skip rfl (by rfl) ?_; simp only [Act.put, List.setIfInBounds_toArray, List.set_cons_zero, List.set_cons_succ]) | (refine wpC_skip' (RBel.refl_) rfl (by rfl) ?_; simp only [Act.put, List.setIfInBounds_toArray, List.set_cons_zero, List.set_cons_succ]))
    refine wpC_nil ?_
    go_wp2_with fail
    go_ret
    exact ⟨rfl, FV⟩
end Go.Proofs.Ytakebmpnbdlcoaa
