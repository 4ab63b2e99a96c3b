/- Walks: a row of sums turned round (slices.Reverse). -/
import Derived.Test.YtakebmpnbdlcoaaTraceC
import Derived.Test.YtakebmpnbdlcoaaRootS
set_option linter.unusedSimpArgs false
set_option linter.unusedVariables false
namespace Go.Proofs.Ytakebmpnbdlcoaa
open Go.RowKit
set_option maxRecDepth 100000
/-- half way through -/
def Swapped (hs L : List (List UInt8)) (i : Nat) : Prop := L.length = hs.length ∧ ∀ k, k < hs.length → L[k]? = if k < i ∨ hs.length - 1 - i < k then hs[hs.length - 1 - k]? else hs[k]?
theorem swapped_start (hs : List (List UInt8)) : Swapped hs hs 0 := ⟨rfl, fun k hk => by rw [if_neg (by omega)]⟩
theorem swapped_step {hs L : List (List UInt8)} {i : Nat} {x y : List UInt8} (h : Swapped hs L i) (hi : 2 * i + 1 < hs.length) (hx : L[i]? = some x) (hy : L[hs.length - 1 - i]? = some y) : Swapped hs ((L.set i y).set (hs.length - 1 - i) x) (i + 1) := by
  obtain ⟨hl, hk⟩ := h
  have ex : hs[i]? = some x := by rw [← hx, hk i (by omega), if_neg (by omega)]
  have ey : hs[hs.length - 1 - i]? = some y := by rw [← hy, hk _ (by omega), if_neg (by omega)]
  refine ⟨by simp [hl], fun k hkl => ?_⟩
  rw [List.getElem?_set, List.getElem?_set]
  by_cases h1 : hs.length - 1 - i = k
  · rw [if_pos h1, if_pos (by simp [hl]; omega), if_pos (by omega), ← ex]
    congr 1
    omega
  · rw [if_neg h1]
    by_cases h2 : i = k
    · rw [if_pos h2, if_pos (by omega), if_pos (by omega), ← ey]
      congr 1
      omega
    · rw [if_neg h2, hk k hkl]
      by_cases h3 : k < i ∨ hs.length - 1 - i < k
      · rw [if_pos h3, if_pos (by omega)]
      · rw [if_neg h3, if_neg (by omega)]
theorem swapped_end {hs L : List (List UInt8)} {i : Nat} (h : Swapped hs L i) (hi : hs.length ≤ 2 * i + 1) : L = hs.reverse := by
  obtain ⟨hl, hk⟩ := h
  refine List.ext_getElem? fun k => ?_
  by_cases hkl : k < hs.length
  · rw [List.getElem?_reverse hkl, hk k hkl]
    by_cases h3 : k < i ∨ hs.length - 1 - i < k
    · rw [if_pos h3]
    · rw [if_neg h3]
      congr 1
      omega
  · rw [List.getElem?_eq_none (by omega), List.getElem?_eq_none (by simp; omega)]
theorem own_of_row {w : World} {B : Nat} {e : TypeId} {size n c g : Nat} {xs rest : List Value} (hb : Blk w g e (xs ++ rest)) (hl : xs.length = n * size) (hr : (xs ++ rest).length = c * size) (hB : B ≤ g) (hnc : n ≤ c) (hc : c ≤ maxLen) : Own w B e size (some ⟨g, 0, none⟩) n c xs :=
  ⟨hl, .inr ⟨g, c, (xs ++ rest).toArray, rfl, hB, hb, hnc, hc, by simpa using hr, by rw [← hl]; simp⟩⟩
set_option maxRecDepth 100000 in
set_option maxHeartbeats 2000000 in
theorem reverse_H (A : Option Addr) (n c B : Nat) (hs : List (List UInt8)) (w : World) (ho : Own w B 27 32 A n c (H8 hs)) (hl : ∀ x ∈ hs, x.length = 32) (hlen : hs.length = n) (hn : n ≤ 4194304) :
    Calls Try.prog 53 #[.slice A n c] w fun e w' => e = .returned (.tuple #[]) ∧ Own w' B 27 32 A n c (H8 hs.reverse) ∧ RBut (A.map (·.block)) w w' := by
  by_cases h0 : n = 0
  · subst h0
    obtain rfl : hs = [] := List.eq_nil_of_length_eq_zero hlen
    go_enter Try.func53, Try.ntmps53
    go_wp2_with fail
    go_loopw [2, 3] (fun i j wr => i = .int .i64 0 ∧ j = .int .i64 (-1) ∧ wr = w) (fun _ _ _ => 0)
    case atStart => exact ⟨rfl, rfl, rfl⟩
    case round =>
      obtain ⟨rfl, rfl, rfl⟩ := hrel
      go_wp2_with fail
      go_end0
      exact ⟨rfl, ho, RBut.refl_ _ _⟩
  · obtain ⟨g, rest, rfl, hg, bk, hrl⟩ := own_row ho (by omega)
    have hc := ho.le
    have HRL := Lib.hid hrl
    have HL := Lib.hid hl
    have HLN := Lib.hid hlen
    have HH8 := Lib.hid (H8_len hs hl)
    clear hrl hl hlen ho
    go_enter Try.func53, Try.ntmps53
    go_wp2_with fail
    go_loopw [2, 3] (fun i j wr => ∃ (k : Nat) (L : List (List UInt8)), i = .int .i64 (k : Int) ∧ j = .int .i64 ((n : Int) - 1 - (k : Int)) ∧ 2 * k ≤ n + 1 ∧ Hid (Swapped hs L k) ∧ Hid (∀ x ∈ L, x.length = 32) ∧ Blk wr g 27 (H8 L ++ rest) ∧ RBut (some g) w wr) (fun i _ _ => n - (intOf i).toNat)
    case atStart => exact ⟨0, hs, rfl, by go_num, by omega, swapped_start hs, HL.out, bk, RBut.refl_ _ _⟩
    case round =>
      clear bk
      obtain ⟨k, L, rfl, rfl, hk, hsw, hall, bk, hbu⟩ := hrel
      by_cases hlt : 2 * k + 1 < n
      · have t1 : (k : Int) < (n : Int) - 1 - (k : Int) := by omega
        go_wp2_with fail
        obtain ⟨m, hm⟩ : ∃ m, m = n - 1 - k := ⟨_, rfl⟩
        have hmn : (n : Int) - 1 - (k : Int) = (m : Int) := by omega
        rw [hmn]
        obtain ⟨x, hx⟩ : ∃ x, L[k]? = some x := ⟨_, List.getElem?_eq_getElem (by rw [hsw.out.1, HLN.out]; omega)⟩
        obtain ⟨y, hy⟩ : ∃ y, L[m]? = some y := ⟨_, List.getElem?_eq_getElem (by rw [hsw.out.1, HLN.out]; omega)⟩
        have hxl := hall.out x (List.mem_of_getElem? hx)
        have hyl := hall.out y (List.mem_of_getElem? hy)
        have hst := swapped_step hsw.out (by rw [HLN.out]; omega) hx (by rw [HLN.out, ← hm]; exact hy)
        rw [HLN.out, ← hm] at hst
        have HST := Lib.hid hst
        have HXL := Lib.hid hxl
        have HYL := Lib.hid hyl
        have rx := bk.sub (k * 32) (B8 x) (H8_at_ L hall.out rest k x hx)
        have ry := bk.sub (m * 32) (B8 y) (H8_at_ L hall.out rest m y hy)
        have hLn : Hid (L.length = n) := (show _ = _ by rw [hsw.out.1, HLN.out])
        have tk : (k : Int) < (n : Int) := by omega
        have tm : (m : Int) < (n : Int) := by omega
        have HMN := Lib.hid hmn.symm
        clear hst hxl hyl hx hy hm hmn
        have hmm : m < n := by omega
        have P1 := Lib.hid (put_H8 L rest k y hall.out HYL.out (by rw [hLn.out]; omega))
        have hA1 : ∀ z ∈ L.set k y, z.length = 32 := fun z hz => by
          rcases List.mem_or_eq_of_mem_set hz with h | h
          · exact hall.out z h
          · rw [h]; exact HYL.out
        have P2 := Lib.hid (put_H8 (L.set k y) rest m x hA1 HXL.out (by rw [List.length_set, hLn.out]; exact hmm))
        have HA2 : Hid (∀ z ∈ (L.set k y).set m x, z.length = 32) := (show ∀ z ∈ (L.set k y).set m x, z.length = 32 from fun z hz => by
          rcases List.mem_or_eq_of_mem_set hz with h | h
          · exact hA1 z h
          · rw [h]; exact HXL.out)
        have hLen : Hid ((H8 L ++ rest).length = n * 32 + rest.length) := (show _ = _ by rw [List.length_append, H8_len L hall.out, hLn.out]; omega)
        have hLen2 : Hid ((H8 (L.set k y) ++ rest).length = n * 32 + rest.length) := (show _ = _ by rw [List.length_append, H8_len _ hA1, List.length_set, hLn.out]; omega)
        clear hA1
        refine wp_region_T [0, 1, 2, 3, 4, 5, 6, 8, 9, 10] 7 11 [(11, false), (12, false), (13, false), (14, false), (15, false)] [(7, false), (12, false), (13, false), (14, false), (15, false)] (fun _ _ => True) (by kernel_rfl) (by kernel_rfl) (by kernel_rfl) (by decide) (by decide) (fun _ => trivial) (fun _ _ _ _ _ => trivial) (by intro d v c a w h; cases d <;> exact h) ?_
        have rx' : wr.drew.rangeAt g (k * 32) (B8 x) := rx
        have ry' : wr.drew.rangeAt g (m * 32) (B8 y) := ry
        have bk' : Blk wr.drew g 27 (H8 L ++ rest) := bk
        have hbu' : RBut (some g) w wr.drew := RBut.trans_ _ _ _ _ hbu (RBut.of_below (Below.refl _ _).drew)
        clear rx ry bk hbu
        generalize wr.drew = V at *
        repeat (first | (refine wpT_quiet (v := ?_) rfl (by rfl) ?_ ?_; rotate_left; (· (intro w' hw'; go_simp; try with_reducible rfl)); simp only [Act.put, List.setIfInBounds_toArray, List.set_cons_zero, List.set_cons_succ]) | (refine wpT_skip rfl (by rfl) ?_; simp only [Act.put, List.setIfInBounds_toArray, List.set_cons_zero, List.set_cons_succ]))
        refine wpT_nil ?_ ?_
        · refine wpC_load_f (fun _ => trivial) rfl (by rfl) _ _ rfl g (m * 32) rfl (B8 y) _ ry' Try.underlying27 rfl (info_hash HYL.out) ?_
          simp only [Act.put, List.setIfInBounds_toArray, List.set_cons_zero, List.set_cons_succ]
          refine wpC_load_f (fun _ => trivial) rfl (by rfl) _ _ rfl g (k * 32) rfl (B8 x) _ rx' Try.underlying27 rfl (info_hash HXL.out) ?_
          simp only [Act.put, List.setIfInBounds_toArray, List.set_cons_zero, List.set_cons_succ]
          clear rx' ry'
          repeat (first | (refine wpC_quiet (v := ?_) rfl (by rfl) ?_ ?_; rotate_left; (· (intro w' hw'; go_simp; try with_reducible rfl)); simp only [Act.put, List.setIfInBounds_toArray, List.set_cons_zero, List.set_cons_succ]) | (refine wpC_val (v := ?_) (fun _ => trivial) rfl (by rfl) ?_ ?_; rotate_left; (· (go_simp; try with_reducible rfl)); simp only [Act.put, List.setIfInBounds_toArray, List.set_cons_zero, List.set_cons_succ]) | (refine wpC_skip rfl (by rfl) ?_; simp only [Act.put, List.setIfInBounds_toArray, List.set_cons_zero, List.set_cons_succ]) | (refine wpC_skip' (fun _ => trivial) rfl (by rfl) ?_; simp only [Act.put, List.setIfInBounds_toArray, List.set_cons_zero, List.set_cons_succ]))
          refine wpC_store_fld rfl (by rfl) _ _ _ rfl g (k * 32) _ _ (B8 y) rfl _ rfl rfl bk' (by rw [B8_len, HYL.out, hLen.out]; omega) (info_hash HYL.out) (B8_one _) (fun _ _ => trivial) ?_
          intro w3 bk3 bu3
          rw [P1.out] at bk3
          simp only [Act.put, List.setIfInBounds_toArray, List.set_cons_zero, List.set_cons_succ]
          repeat (first | (refine wpC_quiet (v := ?_) rfl (by rfl) ?_ ?_; rotate_left; (· (intro w' hw'; go_simp; try with_reducible rfl)); simp only [Act.put, List.setIfInBounds_toArray, List.set_cons_zero, List.set_cons_succ]) | (refine wpC_val (v := ?_) (fun _ => trivial) rfl (by rfl) ?_ ?_; rotate_left; (· (go_simp; try with_reducible rfl)); simp only [Act.put, List.setIfInBounds_toArray, List.set_cons_zero, List.set_cons_succ]) | (refine wpC_skip rfl (by rfl) ?_; simp only [Act.put, List.setIfInBounds_toArray, List.set_cons_zero, List.set_cons_succ]) | (refine wpC_skip' (fun _ => trivial) rfl (by rfl) ?_; simp only [Act.put, List.setIfInBounds_toArray, List.set_cons_zero, List.set_cons_succ]))
          refine wpC_store_fld rfl (by rfl) _ _ _ rfl g (m * 32) _ _ (B8 x) rfl _ rfl rfl bk3 (by rw [B8_len, HXL.out, hLen2.out]; omega) (info_hash HXL.out) (B8_one _) (fun _ _ => trivial) ?_
          intro w4 bk4 bu4
          rw [P2.out] at bk4
          simp only [Act.put, List.setIfInBounds_toArray, List.set_cons_zero, List.set_cons_succ]
          have bu := RBut.trans_ _ _ _ _ hbu' (RBut.trans_ _ _ _ _ bu3 bu4)
          clear bk' bk3 bu3 bu4 hbu'
          refine wpC_nil ?_
          go_wp2_with fail
          go_roundw
          case rel => exact ⟨k + 1, _, by go_num, by rw [HMN.out]; go_num, by omega, HST, HA2, bk4, bu⟩
          case measure => simp [intOf]; omega
        · refine wpC_load_f (fun _ => trivial) rfl (by rfl) _ _ rfl g (k * 32) rfl (B8 x) _ rx' Try.underlying27 rfl (info_hash HXL.out) ?_
          simp only [Act.put, List.setIfInBounds_toArray, List.set_cons_zero, List.set_cons_succ]
          refine wpC_load_f (fun _ => trivial) rfl (by rfl) _ _ rfl g (m * 32) rfl (B8 y) _ ry' Try.underlying27 rfl (info_hash HYL.out) ?_
          simp only [Act.put, List.setIfInBounds_toArray, List.set_cons_zero, List.set_cons_succ]
          clear rx' ry'
          repeat (first | (refine wpC_quiet (v := ?_) rfl (by rfl) ?_ ?_; rotate_left; (· (intro w' hw'; go_simp; try with_reducible rfl)); simp only [Act.put, List.setIfInBounds_toArray, List.set_cons_zero, List.set_cons_succ]) | (refine wpC_val (v := ?_) (fun _ => trivial) rfl (by rfl) ?_ ?_; rotate_left; (· (go_simp; try with_reducible rfl)); simp only [Act.put, List.setIfInBounds_toArray, List.set_cons_zero, List.set_cons_succ]) | (refine wpC_skip rfl (by rfl) ?_; simp only [Act.put, List.setIfInBounds_toArray, List.set_cons_zero, List.set_cons_succ]) | (refine wpC_skip' (fun _ => trivial) rfl (by rfl) ?_; simp only [Act.put, List.setIfInBounds_toArray, List.set_cons_zero, List.set_cons_succ]))
          refine wpC_store_fld rfl (by rfl) _ _ _ rfl g (k * 32) _ _ (B8 y) rfl _ rfl rfl bk' (by rw [B8_len, HYL.out, hLen.out]; omega) (info_hash HYL.out) (B8_one _) (fun _ _ => trivial) ?_
          intro w3 bk3 bu3
          rw [P1.out] at bk3
          simp only [Act.put, List.setIfInBounds_toArray, List.set_cons_zero, List.set_cons_succ]
          repeat (first | (refine wpC_quiet (v := ?_) rfl (by rfl) ?_ ?_; rotate_left; (· (intro w' hw'; go_simp; try with_reducible rfl)); simp only [Act.put, List.setIfInBounds_toArray, List.set_cons_zero, List.set_cons_succ]) | (refine wpC_val (v := ?_) (fun _ => trivial) rfl (by rfl) ?_ ?_; rotate_left; (· (go_simp; try with_reducible rfl)); simp only [Act.put, List.setIfInBounds_toArray, List.set_cons_zero, List.set_cons_succ]) | (refine wpC_skip rfl (by rfl) ?_; simp only [Act.put, List.setIfInBounds_toArray, List.set_cons_zero, List.set_cons_succ]) | (refine wpC_skip' (fun _ => trivial) rfl (by rfl) ?_; simp only [Act.put, List.setIfInBounds_toArray, List.set_cons_zero, List.set_cons_succ]))
          refine wpC_store_fld rfl (by rfl) _ _ _ rfl g (m * 32) _ _ (B8 x) rfl _ rfl rfl bk3 (by rw [B8_len, HXL.out, hLen2.out]; omega) (info_hash HXL.out) (B8_one _) (fun _ _ => trivial) ?_
          intro w4 bk4 bu4
          rw [P2.out] at bk4
          simp only [Act.put, List.setIfInBounds_toArray, List.set_cons_zero, List.set_cons_succ]
          have bu := RBut.trans_ _ _ _ _ hbu' (RBut.trans_ _ _ _ _ bu3 bu4)
          clear bk' bk3 bu3 bu4 hbu'
          refine wpC_nil ?_
          go_wp2_with fail
          go_roundw
          case rel => exact ⟨k + 1, _, by go_num, by rw [HMN.out]; go_num, by omega, HST, HA2, bk4, bu⟩
          case measure => simp [intOf]; omega
      · have t1 : ¬ (k : Int) < (n : Int) - 1 - (k : Int) := by omega
        go_wp2_with fail
        go_end0
        have hend := swapped_end hsw.out (by rw [HLN.out]; omega)
        rw [← hend]
        refine ⟨rfl, own_of_row bk ?_ ?_ hg hc.1 hc.2, hbu⟩
        · rw [H8_len L hall.out, hend]
          simp [HLN.out]
          omega
        · have h1 := H8_len L hall.out
          have h2 := HH8.out
          have h3 := HRL.out
          rw [List.length_append] at h3 ⊢
          rw [h2] at h3
          rw [h1, hend, List.length_reverse]
          exact h3
end Go.Proofs.Ytakebmpnbdlcoaa
