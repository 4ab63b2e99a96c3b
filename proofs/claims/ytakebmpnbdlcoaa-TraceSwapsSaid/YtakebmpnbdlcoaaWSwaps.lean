/- The walk of capstanlaw12.TraceSwaps. -/
import Derived.Test.YtakebmpnbdlcoaaTraceK
set_option linter.unusedSimpArgs false
set_option linter.unusedVariables false
namespace Go.Proofs.Ytakebmpnbdlcoaa
open Go.RowKit
set_option maxRecDepth 100000
theorem set_self {l : List (List UInt8)} {i : Nat} {x : List UInt8} (h : l[i]? = some x) : (l.set i x).set i x = l := by
  rw [List.set_set]
  refine List.ext_getElem? fun k => ?_
  rw [List.getElem?_set]
  by_cases hk : i = k
  · subst hk
    rw [if_pos rfl, if_pos (List.getElem?_eq_some_iff.1 h).1, h]
  · rw [if_neg hk]
set_option maxRecDepth 100000 in
set_option maxHeartbeats 4000000 in
theorem traceSwaps_walk (w : World) (a : Int) (a_lo : -9223372036854775808 ≤ a) (a_hi : a < 9223372036854775808) (b : Int) (b_lo : -9223372036854775808 ≤ b) (b_hi : b < 9223372036854775808) (d : Int) (d_lo : -9223372036854775808 ≤ d) (d_hi : d < 9223372036854775808) :
    Calls Try.prog 13 #[.int .i64 a, .int .i64 b, .int .i64 d] w (RB true w) := by
  go_enter Try.func13, Try.ntmps13
  go_wp2_with fail
  refine (traceKnown_any w).mono ?_
  rintro e w1 ⟨rfl, h1⟩
  go_wp2_with fail
  refine (within_capstanlaw12 a 40 w1 (by omega) (by omega) a_lo a_hi).mono ?_
  rintro e w1' ⟨rfl, rfl⟩
  obtain ⟨n, hn⟩ : ∃ n : Nat, 2 + a % 40 = (n : Int) := ⟨(2 + a % 40).toNat, by omega⟩
  have hn1 : 2 ≤ n := by omega
  have hn2 : n ≤ 41 := by omega
  go_wp2_with fail
  refine (within_capstanlaw12 b (n : Int) w1 (by omega) (by omega) b_lo b_hi).mono ?_
  rintro e w1' ⟨rfl, rfl⟩
  obtain ⟨i, hi⟩ : ∃ i : Nat, b % (n : Int) = (i : Int) := ⟨(b % (n : Int)).toNat, by have := Int.emod_nonneg b (show (n : Int) ≠ 0 by omega); omega⟩
  have hin : i < n := by have := Int.emod_lt_of_pos b (show 0 < (n : Int) by omega); omega
  rw [hi]
  go_wp2_with fail
  refine (within_capstanlaw12 d (n : Int) w1 (by omega) (by omega) d_lo d_hi).mono ?_
  rintro e w1' ⟨rfl, rfl⟩
  obtain ⟨j, hj⟩ : ∃ j : Nat, d % (n : Int) = (j : Int) := ⟨(d % (n : Int)).toNat, by have := Int.emod_nonneg d (show (n : Int) ≠ 0 by omega); omega⟩
  have hjn : j < n := by have := Int.emod_lt_of_pos d (show 0 < (n : Int) by omega); omega
  rw [hj]
  clear hn hi hj a_lo a_hi b_lo b_hi d_lo d_hi
  have HHL := Lib.hid (hashL_len n)
  have HHA := Lib.hid (hashL_all n)
  go_wp2_with fail
  refine (hashes_any n w1 (by omega)).mono ?_
  rintro e w2 ⟨A2, c2, rfl, ho2, h2⟩
  have hle2 := ho2.le
  have f2 := h1.trans (h2.mono h1.size)
  obtain ⟨g, rest, rfl, hg, bk, hrl⟩ := own_row ho2 (by omega)
  have HRL := Lib.hid hrl
  clear h2 hrl
  go_wp2_with fail
  refine (cmt_any _ n c2 (hashL n) w2 hle2.1 hle2.2 (by omega) HHA.out HHL.out ho2.sl).mono ?_
  rintro e w3 ⟨rfl, h3⟩
  have HSM := Lib.hid (commitS_len (hashL n) HHA.out)
  obtain ⟨sm, hsm⟩ : ∃ sm, sm = commitS (hashL n) := ⟨_, rfl⟩
  rw [← hsm] at HSM ⊢
  have HT := Lib.hid hsm
  clear hsm
  have f3 := f2.trans (h3.mono f2.size)
  have bk3 := bk.to h3
  have hg3 := bk3.lt
  clear bk ho2 h3 f2
  unfold hv
  go_wp2_with (first
    | (refine wpl_store_new rfl _ _ _ rfl 27 _ (B8 sm) rfl rfl (by rw [B8_len, HSM.out]; rfl) (info_hash HSM.out) (B8_one _) ?_
       intro w4 b4 h4
       have bk4 := bk3.to h4
       have f4 := f3.trans (h4.mono f3.size)
       have hs4 := b4.lt
       clear bk3 h4
       simp only [Act.put]))
  obtain ⟨pA, hpA⟩ : ∃ pA, pA = w3.heap.size := ⟨_, rfl⟩
  rw [← hpA] at b4 hg3 hs4 ⊢
  clear hpA
  generalize hL : hashL n = L at *
  have HLL := Lib.hid hL
  clear hL
  obtain ⟨x, hx⟩ : ∃ x, L[i]? = some x := ⟨_, List.getElem?_eq_getElem (by rw [HHL.out]; omega)⟩
  obtain ⟨y, hy⟩ : ∃ y, L[j]? = some y := ⟨_, List.getElem?_eq_getElem (by rw [HHL.out]; omega)⟩
  have HXL := Lib.hid (HHA.out x (List.mem_of_getElem? hx))
  have HYL := Lib.hid (HHA.out y (List.mem_of_getElem? hy))
  have rx := bk4.sub (i * 32) (B8 x) (H8_at_ L HHA.out rest i x hx)
  have ry := bk4.sub (j * 32) (B8 y) (H8_at_ L HHA.out rest j y hy)
  have HX := Lib.hid hx
  have HY := Lib.hid hy
  have ti : (i : Int) < (n : Int) := by omega
  have tj : (j : Int) < (n : Int) := by omega
  clear hx hy
  have P1 := Lib.hid (put_H8 L rest i y HHA.out HYL.out (by rw [HHL.out]; omega))
  have hA1 : ∀ z ∈ L.set i y, z.length = 32 := fun z hz => by
    rcases List.mem_or_eq_of_mem_set hz with h | h
    · exact HHA.out z h
    · rw [h]; exact HYL.out
  have P2 := Lib.hid (put_H8 (L.set i y) rest j x hA1 HXL.out (by rw [List.length_set, HHL.out]; exact hjn))
  have HA2 : Hid (∀ z ∈ (L.set i y).set j x, z.length = 32) := (show ∀ z ∈ (L.set i y).set j x, z.length = 32 from fun z hz => by
    rcases List.mem_or_eq_of_mem_set hz with h | h
    · exact hA1 z h
    · rw [h]; exact HXL.out)
  have hLen : Hid ((H8 L ++ rest).length = n * 32 + rest.length) := (show _ = _ by rw [List.length_append, H8_len L HHA.out, HHL.out]; omega)
  have hLen2 : Hid ((H8 (L.set i y) ++ rest).length = n * 32 + rest.length) := (show _ = _ by rw [List.length_append, H8_len _ hA1, List.length_set, HHL.out]; omega)
  have HL2 : Hid (((L.set i y).set j x).length = n) := (show _ = _ by rw [List.length_set, List.length_set, HHL.out])
  clear hA1
  refine wp_region_T [0, 1, 2, 3, 4, 5, 6, 8, 9, 10] 7 11 [(11, false), (12, false), (13, false), (14, false), (15, false)] [(7, false), (12, false), (13, false), (14, false), (15, false)] (fun _ _ => True) (by kernel_rfl) (by kernel_rfl) (by kernel_rfl) (by decide) (by decide) (fun _ => trivial) (fun _ _ _ _ _ => trivial) (by intro d v c a w h; cases d <;> exact h) ?_
  have rx' : w4.drew.rangeAt g (i * 32) (B8 x) := rx
  have ry' : w4.drew.rangeAt g (j * 32) (B8 y) := ry
  have bk' : Blk w4.drew g 27 (H8 L ++ rest) := bk4
  have b4' : Blk w4.drew pA 27 (B8 sm) := b4
  have f4' : Below w.heap.size w w4.drew := f4.drew
  have hgA : g < w4.drew.heap.size := bk'.lt
  have hne : pA ≠ g := by
    have := hg3
    omega
  clear rx ry bk4 b4 f4
  generalize w4.drew = V at *
  repeat (first | (refine wpT_quiet (v := ?_) rfl (by rfl) ?_ ?_; rotate_left; (· (intro w' hw'; go_simp; try with_reducible rfl)); simp only [Act.put, List.setIfInBounds_toArray, List.set_cons_zero, List.set_cons_succ]) | (refine wpT_skip rfl (by rfl) ?_; simp only [Act.put, List.setIfInBounds_toArray, List.set_cons_zero, List.set_cons_succ]))
  refine wpT_nil ?m1 ?m2
  case' m1 =>
    (refine wpC_load_f (fun _ => trivial) rfl (by rfl) _ _ rfl g (j * 32) rfl (B8 y) _ ry' Try.underlying27 rfl (info_hash HYL.out) ?_
     simp only [Act.put, List.setIfInBounds_toArray, List.set_cons_zero, List.set_cons_succ]
     refine wpC_load_f (fun _ => trivial) rfl (by rfl) _ _ rfl g (i * 32) rfl (B8 x) _ rx' Try.underlying27 rfl (info_hash HXL.out) ?_
     simp only [Act.put, List.setIfInBounds_toArray, List.set_cons_zero, List.set_cons_succ]
)
  case' m2 =>
    (refine wpC_load_f (fun _ => trivial) rfl (by rfl) _ _ rfl g (i * 32) rfl (B8 x) _ rx' Try.underlying27 rfl (info_hash HXL.out) ?_
     simp only [Act.put, List.setIfInBounds_toArray, List.set_cons_zero, List.set_cons_succ]
     refine wpC_load_f (fun _ => trivial) rfl (by rfl) _ _ rfl g (j * 32) rfl (B8 y) _ ry' Try.underlying27 rfl (info_hash HYL.out) ?_
     simp only [Act.put, List.setIfInBounds_toArray, List.set_cons_zero, List.set_cons_succ]
)
  all_goals
    clear rx' ry'
    repeat (first | (refine wpC_quiet (v := ?_) rfl (by rfl) ?_ ?_; rotate_left; (· (intro w' hw'; go_simp; try with_reducible rfl)); simp only [Act.put, List.setIfInBounds_toArray, List.set_cons_zero, List.set_cons_succ]) | (refine wpC_val (v := ?_) (fun _ => trivial) rfl (by rfl) ?_ ?_; rotate_left; (· (go_simp; try with_reducible rfl)); simp only [Act.put, List.setIfInBounds_toArray, List.set_cons_zero, List.set_cons_succ]) | (refine wpC_skip rfl (by rfl) ?_; simp only [Act.put, List.setIfInBounds_toArray, List.set_cons_zero, List.set_cons_succ]) | (refine wpC_skip' (fun _ => trivial) rfl (by rfl) ?_; simp only [Act.put, List.setIfInBounds_toArray, List.set_cons_zero, List.set_cons_succ]))
    refine wpC_store_fld rfl (by rfl) _ _ _ rfl g (i * 32) _ _ (B8 y) rfl _ rfl rfl bk' (by rw [B8_len, HYL.out, hLen.out]; omega) (info_hash HYL.out) (B8_one _) (fun _ _ => trivial) ?_
    intro w5 bk5 bu5
    rw [P1.out] at bk5
    simp only [Act.put, List.setIfInBounds_toArray, List.set_cons_zero, List.set_cons_succ]
    repeat (first | (refine wpC_quiet (v := ?_) rfl (by rfl) ?_ ?_; rotate_left; (· (intro w' hw'; go_simp; try with_reducible rfl)); simp only [Act.put, List.setIfInBounds_toArray, List.set_cons_zero, List.set_cons_succ]) | (refine wpC_val (v := ?_) (fun _ => trivial) rfl (by rfl) ?_ ?_; rotate_left; (· (go_simp; try with_reducible rfl)); simp only [Act.put, List.setIfInBounds_toArray, List.set_cons_zero, List.set_cons_succ]) | (refine wpC_skip rfl (by rfl) ?_; simp only [Act.put, List.setIfInBounds_toArray, List.set_cons_zero, List.set_cons_succ]) | (refine wpC_skip' (fun _ => trivial) rfl (by rfl) ?_; simp only [Act.put, List.setIfInBounds_toArray, List.set_cons_zero, List.set_cons_succ]))
    refine wpC_store_fld rfl (by rfl) _ _ _ rfl g (j * 32) _ _ (B8 x) rfl _ rfl rfl bk5 (by rw [B8_len, HXL.out, hLen2.out]; omega) (info_hash HXL.out) (B8_one _) (fun _ _ => trivial) ?_
    intro w6 bk6 bu6
    rw [P2.out] at bk6
    simp only [Act.put, List.setIfInBounds_toArray, List.set_cons_zero, List.set_cons_succ]
    have bu := RBut.trans_ _ _ _ _ bu5 bu6
    have b6 := b4'.but bu (by intro e; injection e; omega)
    have f6 := f4'.trans (below_but bu (by have := h1.size; omega) f4'.size)
    clear bk' bk5 bu5 bu6 bu f4' b4'
    refine wpC_nil ?_
    go_wp2_with fail
    have E2 : i = j → (L.set i y).set j x = L := by
      intro e
      subst e
      have hxy : x = y := by have h1 := HX.out; rw [HY.out] at h1; injection h1 with h1; exact h1.symm
      rw [hxy]
      exact set_self HY.out
    have E2H := Lib.hid E2
    clear E2
    generalize (L.set i y).set j x = L2 at *
    have HSM2 := Lib.hid (commitS_len L2 HA2.out)
    refine wp_region_C [(0, true), (2, true), (1, false), (3, false), (4, false), (5, false), (6, true), (9, true), (7, false), (8, false), (10, false), (11, false), (12, false), (13, true), (14, false), (15, false), (16, false), (17, true), (19, true), (18, false), (20, false), (21, false), (22, false), (23, false)] RBel (by kernel_rfl) (by kernel_rfl) (by kernel_rfl) (by decide) RBel.refl_ RBel.trans_ (by intro d v c a w h; cases d <;> exact h) ?_
    have bk7 : Blk w6.drew g 27 (H8 L2 ++ rest) := bk6
    have b7 : Blk w6.drew pA 27 (B8 sm) := b6
    have f7 : Below w.heap.size w w6.drew := f6.drew
    clear bk6 b6 f6
    generalize w6.drew = V1 at *
    have sl7 : Sl V1 32 (some ⟨g, 0, none⟩) n (H8 L2) := by
      refine ⟨by rw [H8_len L2 HA2.out, HL2.out]; omega, fun _ => ⟨g, 0, rfl, bk7.lt, fun q u hu => ?_⟩⟩
      rw [Nat.zero_add, bk7.cell]
      rw [List.getElem?_append_left (List.getElem?_eq_some_iff.1 hu).1]
      exact hu
    clear bk7 P1 P2 hLen hLen2 HRL
    repeat (first | (refine wpC_quiet (v := ?_) rfl (by rfl) ?_ ?_; rotate_left; (· (intro w' hw'; go_simp; try with_reducible rfl)); simp only [Act.put, List.setIfInBounds_toArray, List.set_cons_zero, List.set_cons_succ]) | (refine wpC_val (v := ?_) (RBel.refl_) rfl (by rfl) ?_ ?_; rotate_left; (· (go_simp; try with_reducible rfl)); simp only [Act.put, List.setIfInBounds_toArray, List.set_cons_zero, List.set_cons_succ]) | (refine wpC_skip rfl (by rfl) ?_; simp only [Act.put, List.setIfInBounds_toArray, List.set_cons_zero, List.set_cons_succ]) | (refine wpC_skip' (RBel.refl_) rfl (by rfl) ?_; simp only [Act.put, List.setIfInBounds_toArray, List.set_cons_zero, List.set_cons_succ]))
    (refine wpC_loud rfl (by rfl) ?_; intro K hK; go_simp)
    refine (cmt_any _ n c2 L2 V1 hle2.1 hle2.2 (by omega) HA2.out HL2.out sl7).mono ?_
    rintro e w7 ⟨rfl, h7⟩
    unfold hv
    (refine hK.out _ _ (h7) ?_; clear hK K; try simp only [Act.put, List.setIfInBounds_toArray, List.set_cons_zero, List.set_cons_succ])
    have sl8 := sl7.to h7
    have b8' := b7.to h7
    have f8 := f7.trans (h7.mono f7.size)
    clear sl7 b7 f7 h7
    (refine wpC_loud rfl (by rfl) ?_; intro K hK; go_simp)
    refine (refCommit_any n n _ c2 L2 w7 (Nat.le_refl _) hle2.1 hle2.2 (by omega) HA2.out HL2.out sl8).mono ?_
    rintro e w8 ⟨rfl, h8⟩
    unfold hv
    (refine hK.out _ _ (h8) ?_; clear hK K; try simp only [Act.put, List.setIfInBounds_toArray, List.set_cons_zero, List.set_cons_succ])
    have sl9 := sl8.to h8
    have b9 := b8'.to h8
    have f9 := f8.trans (h8.mono f8.size)
    clear sl8 b8' f8 h8
    have eq1 := eq_same (commitS L2) HSM2.out
    repeat (first | (refine wpC_quiet (v := ?_) rfl (by rfl) ?_ ?_; rotate_left; (· (intro w' hw'; go_simp; try with_reducible rfl)); simp only [Act.put, List.setIfInBounds_toArray, List.set_cons_zero, List.set_cons_succ]) | (refine wpC_val (v := ?_) (RBel.refl_) rfl (by rfl) ?_ ?_; rotate_left; (· (go_simp; try with_reducible rfl)); simp only [Act.put, List.setIfInBounds_toArray, List.set_cons_zero, List.set_cons_succ]) | (refine wpC_skip rfl (by rfl) ?_; simp only [Act.put, List.setIfInBounds_toArray, List.set_cons_zero, List.set_cons_succ]) | (refine wpC_skip' (RBel.refl_) rfl (by rfl) ?_; simp only [Act.put, List.setIfInBounds_toArray, List.set_cons_zero, List.set_cons_succ]))
    clear eq1
    refine wpC_load rfl (by rfl) _ _ rfl pA 0 rfl (B8 sm) _ (fun w' hw' => (b9.to hw').range) Try.underlying27 rfl (info_hash HSM.out) ?_
    simp only [Act.put, List.setIfInBounds_toArray, List.set_cons_zero, List.set_cons_succ]
    (refine wpC_loud rfl (by rfl) ?_; intro K hK; go_simp)
    refine (hashes_any n w8 (by omega)).mono ?_
    rintro e w9 ⟨A9, c9, rfl, ho9, h9⟩
    (refine hK.out _ _ (h9) ?_; clear hK K; try simp only [Act.put, List.setIfInBounds_toArray, List.set_cons_zero, List.set_cons_succ])
    have sl10 := sl9.to h9
    have b10 := b9.to h9
    have f10 := f9.trans (h9.mono f9.size)
    have hle9 := ho9.le
    clear sl9 b9 f9 h9
    (refine wpC_loud rfl (by rfl) ?_; intro K hK; go_simp)
    refine (cmt_any _ n c9 (hashL n) w9 hle9.1 hle9.2 (by omega) (by rw [HLL.out]; exact HHA.out) (by rw [HLL.out]; exact HHL.out) ho9.sl).mono ?_
    rintro e w10 ⟨rfl, h10⟩
    rw [HLL.out, ← HT.out]
    unfold hv
    (refine hK.out _ _ (h10) ?_; clear hK K; try simp only [Act.put, List.setIfInBounds_toArray, List.set_cons_zero, List.set_cons_succ])
    have sl11 := sl10.to h10
    have b11 := b10.to h10
    have f11 := f10.trans (h10.mono f10.size)
    clear sl10 b10 f10 h10 ho9
    have eq2 := eq_same sm HSM.out
    by_cases hij : i = j
    · have t9 : (i : Int) = (j : Int) := by omega
      repeat (first | (refine wpC_quiet (v := ?_) rfl (by rfl) ?_ ?_; rotate_left; (· (intro w' hw'; go_simp; try with_reducible rfl)); simp only [Act.put, List.setIfInBounds_toArray, List.set_cons_zero, List.set_cons_succ]) | (refine wpC_val (v := ?_) (RBel.refl_) rfl (by rfl) ?_ ?_; rotate_left; (· (go_simp; try with_reducible rfl)); simp only [Act.put, List.setIfInBounds_toArray, List.set_cons_zero, List.set_cons_succ]) | (refine wpC_skip rfl (by rfl) ?_; simp only [Act.put, List.setIfInBounds_toArray, List.set_cons_zero, List.set_cons_succ]) | (refine wpC_skip' (RBel.refl_) rfl (by rfl) ?_; simp only [Act.put, List.setIfInBounds_toArray, List.set_cons_zero, List.set_cons_succ]))
      clear eq2
      refine wpC_load rfl (by rfl) _ _ rfl pA 0 rfl (B8 sm) _ (fun w' hw' => (b11.to hw').range) Try.underlying27 rfl (info_hash HSM.out) ?_
      simp only [Act.put, List.setIfInBounds_toArray, List.set_cons_zero, List.set_cons_succ]
      (refine wpC_loud rfl (by rfl) ?_; intro K hK; go_simp)
      refine (cmt_any _ n c2 L2 w10 hle2.1 hle2.2 (by omega) HA2.out HL2.out sl11).mono ?_
      rintro e w11 ⟨rfl, h11⟩
      rw [E2H.out hij, ← HT.out]
      unfold hv
      (refine hK.out _ _ (h11) ?_; clear hK K; try simp only [Act.put, List.setIfInBounds_toArray, List.set_cons_zero, List.set_cons_succ])
      have f12 := f11.trans (h11.mono f11.size)
      have eq3 := eq_same sm HSM.out
      repeat (first | (refine wpC_quiet (v := ?_) rfl (by rfl) ?_ ?_; rotate_left; (· (intro w' hw'; go_simp; try with_reducible rfl)); simp only [Act.put, List.setIfInBounds_toArray, List.set_cons_zero, List.set_cons_succ]) | (refine wpC_val (v := ?_) (RBel.refl_) rfl (by rfl) ?_ ?_; rotate_left; (· (go_simp; try with_reducible rfl)); simp only [Act.put, List.setIfInBounds_toArray, List.set_cons_zero, List.set_cons_succ]) | (refine wpC_skip rfl (by rfl) ?_; simp only [Act.put, List.setIfInBounds_toArray, List.set_cons_zero, List.set_cons_succ]) | (refine wpC_skip' (RBel.refl_) rfl (by rfl) ?_; simp only [Act.put, List.setIfInBounds_toArray, List.set_cons_zero, List.set_cons_succ]))
      refine wpC_nil ?_
      go_wp2_with fail
      go_ret
      exact ⟨rfl, f12⟩
    · have t9 : ¬ (i : Int) = (j : Int) := by omega
      have t10 : ((i : Int) == (j : Int)) = false := by simpa using t9
      have t11 : ((i : Int) != (j : Int)) = true := by simpa using t9
      repeat (first | (refine wpC_quiet (v := ?_) rfl (by rfl) ?_ ?_; rotate_left; (· (intro w' hw'; go_simp; try with_reducible rfl)); simp only [Act.put, List.setIfInBounds_toArray, List.set_cons_zero, List.set_cons_succ]) | (refine wpC_val (v := ?_) (RBel.refl_) rfl (by rfl) ?_ ?_; rotate_left; (· (go_simp; try with_reducible rfl)); simp only [Act.put, List.setIfInBounds_toArray, List.set_cons_zero, List.set_cons_succ]) | (refine wpC_skip rfl (by rfl) ?_; simp only [Act.put, List.setIfInBounds_toArray, List.set_cons_zero, List.set_cons_succ]) | (refine wpC_skip' (RBel.refl_) rfl (by rfl) ?_; simp only [Act.put, List.setIfInBounds_toArray, List.set_cons_zero, List.set_cons_succ]))
      refine wpC_nil ?_
      go_wp2_with fail
      go_ret
      exact ⟨rfl, f11⟩
end Go.Proofs.Ytakebmpnbdlcoaa
