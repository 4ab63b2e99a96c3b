/- Walks: a path of a row of sums (trace.Path). -/
import Derived.Test.YtakebmpnbdlcoaaTraceR
import Derived.Test.YtakebmpnbdlcoaaTraceQ
set_option linter.unusedSimpArgs false
set_option linter.unusedVariables false
namespace Go.Proofs.Ytakebmpnbdlcoaa
open Go.RowKit
set_option maxRecDepth 100000
theorem path_len {hs : List (List UInt8)} {i : Nat} (h : hs.length ≤ 1073741824) : (pathS hs i).length ≤ 30 := by
  rw [path_sides hs.length hs i (Nat.le_refl _)]
  exact sides_len 30 _ i (by simpa using h)
/-- hands back a row of sums and no error -/
def RSt (w : World) (hs : List (List UInt8)) (en : Ending) (w' : World) : Prop := ∃ A c, en = .returned (.tuple #[.slice A hs.length c, .int .i64 0]) ∧ Own w' w.heap.size 27 32 A hs.length c (H8 hs) ∧ Below w.heap.size w w'
theorem path_bad (A : Option Addr) (n c : Nat) (i : Int) (w : World) (hi : i < 0 ∨ (n : Int) ≤ i) :
    Calls Try.prog 31 #[.slice A n c, .int .i64 i] w fun e w' => e = .returned (.tuple #[.slice none 0 0, .int .i64 1]) ∧ w = w' := by
  have hi : i < 0 ∨ ¬ i < 0 ∧ (n : Int) ≤ i := by omega
  go_enter Try.func31, Try.ntmps31
  rcases hi with h | ⟨h, h2⟩
  all_goals
    go_wp2_with fail
    go_ret2
    exact ⟨rfl, rfl⟩
set_option maxRecDepth 100000 in
set_option maxHeartbeats 4000000 in
theorem path_any (A : Option Addr) (n c : Nat) (hs : List (List UInt8)) (i : Nat) (w : World) (hnc : n ≤ c) (hc : c ≤ maxLen) (hn : n ≤ 1073741824) (hl : ∀ x ∈ hs, x.length = 32) (hlen : hs.length = n) (sl : Sl w 32 A n (H8 hs)) (hi : i < n) :
    Calls Try.prog 31 #[.slice A n c, .int .i64 (i : Int)] w (RSt w (pathS hs i)) := by
  have HPL := Lib.hid (path_len (hs := hs) (i := i) (by omega))
  have HLN := Lib.hid hlen
  have HL := Lib.hid hl
  have HC := Lib.hid hc
  clear hlen hl hc
  obtain ⟨b, o0, rfl, hb0⟩ := sl.some_ (by omega)
  have a1 : ¬ (i : Int) < 0 := by omega
  have a2 : ¬ (n : Int) ≤ (i : Int) := by omega
  go_enter Try.func31, Try.ntmps31
  go_wp2_with fail
  go_loopw [0, 1, 6] (fun l j o wr => ∃ (cur out : List (List UInt8)) (Ao : Option Addr) (of m c2 co k : Nat), l = .slice (some ⟨b, of, none⟩) m c2 ∧ j = .int .i64 (k : Int) ∧ o = .slice Ao out.length co ∧ m ≤ n ∧ k < m ∧ m ≤ c2 ∧ Hid (c2 ≤ maxLen) ∧ Hid (∀ x ∈ cur, x.length = 32) ∧ Hid (cur.length = m) ∧ Hid (∀ x ∈ out, x.length = 32) ∧
    Hid (pathS cur k ++ out.reverse = pathS hs i) ∧ Sl wr 32 (some ⟨b, of, none⟩) m (H8 cur) ∧ Own wr w.heap.size 27 32 Ao out.length co (H8 out) ∧ Below w.heap.size w wr) (fun l _ _ _ => match l with | .slice _ n _ => n | _ => 0)
  case atStart => exact ⟨hs, [], none, o0, n, c, 0, i, rfl, rfl, rfl, Nat.le_refl _, hi, hnc, HC, HL, HLN, (by intro x hx; cases hx), (by show _ = _; simp), sl, Own.nil_, Below.refl _ _⟩
  case round =>
    clear sl
    obtain ⟨cur, out, Ao, of, m, c2, co, k, rfl, rfl, rfl, hm, hk, hmc, hc2, hcl, hcn, hol, he, sl, ho, hb⟩ := hrel
    have hout : out.length ≤ 30 := by
      have := congrArg List.length he.out
      have := HPL.out
      simp only [List.length_append, List.length_reverse] at *
      omega
    have hsz := hb.size
    have hc63 : c2 ≤ 9223372036854775807 := by have := hc2.out; simp only [maxLen] at this; omega
    by_cases h1 : 2 ≤ m
    · have t1 : (1 : Int) < (m : Int) := by omega
      have hs1 := split_lt (n := m) h1
      have hs2 := split_pos m
      have hlo := @pathS_lo cur k (by rw [hcn.out]; exact h1)
      have hhi := @pathS_hi cur k (by rw [hcn.out]; exact h1)
      rw [hcn.out] at hlo hhi
      have HLO := Lib.hid hlo
      have HHI := Lib.hid hhi
      clear hlo hhi
      go_wp2_with fail
      refine (half_any m wr h1 (by omega)).mono ?_
      rintro e w0 ⟨rfl, rfl⟩
      generalize hsp : splitN m = s at *
      clear hsp
      have kc : (s : Int) ≤ (c2 : Int) := by omega
      have kn : (s : Int) ≤ (m : Int) := by omega
      have ck : ¬ c2 = s := by omega
      have slf := sl.front32 hcl.out (k := s) (by omega)
      have slb := sl.back32 hcl.out (k := s) (by omega)
      by_cases h2 : k < s
      · have t2 : (k : Int) < (s : Int) := by omega
        go_wp2_with fail
        refine (commit_any m (m - s) _ (c2 - s) (cur.drop s) wr (by omega) (by omega) (by have := hc2.out; omega) (by omega) (len32_drop hcl.out s) (by rw [List.length_drop, hcn.out]) slb).mono ?_
        rintro e w2 ⟨rfl, h3⟩
        have HSM := Lib.hid (commitS_len (cur.drop s) (len32_drop hcl.out s))
        have HE : Hid (pathS (cur.take s) k ++ (out ++ [commitS (cur.drop s)]).reverse = pathS hs i) := (show _ = _ by rw [← he.out, HLO.out h2]; simp)
        generalize commitS (cur.drop s) = sm at *
        unfold hv
        have ho2 := ho.to h3
        have sl2 := slf.to h3
        have hb2 := hb.trans (h3.mono hb.size)
        have hs2z := hb2.size
        have hob := ho2.lt
        clear slf slb sl ho h3 hb hsz
        have hbl2 : (B8 sm).length = 32 := by rw [B8_len, HSM.out]
        go_wp2_with (first
          | (at_builtin
             rw [fold_sum' sm HSM.out]
             refine wpl_push _ _ _ elH rfl rfl rfl ho2 rfl (by rw [List.size_toArray, B8_len, HSM.out]) (by intro u hu; exact B8_one _ u (by simpa using hu)) (by omega) (by omega) hs2z ?_
             intro A3 c3 w3 g3 h3 gb3))
        have o3 : Own w3 w.heap.size 27 32 A3 (out ++ [sm]).length c3 (H8 (out ++ [sm])) := by
          have := g3.own
          rw [H8_snoc, List.length_append]
          exact this
        have sl3 : Sl w3 32 (some ⟨b, of, none⟩) s (H8 (cur.take s)) := sl2.but gb3 (by
          intro e
          have := (hob b e.symm).1
          omega)
        clear g3 gb3
        go_roundw
        case rel => exact ⟨cur.take s, out ++ [sm], A3, of, s, c2, c3, k, rfl, rfl, by simp, by omega, h2, by omega, hc2, len32_take hcl.out s, (by show _ = _; rw [List.length_take, hcn.out]; omega), (by
            intro x hx
            rcases List.mem_append.1 hx with h | h
            · exact hol.out x h
            · simp at h; rw [h]; exact HSM.out), HE, sl3, o3, hb2.trans h3⟩
        case measure => simp; omega
      · have t2 : ¬ (k : Int) < (s : Int) := by omega
        have u2 : (k : Int) - (s : Int) = ((k - s : Nat) : Int) := by omega
        go_wp2_with fail
        refine (commit_any m s _ c2 (cur.take s) wr (by omega) (by omega) hc2.out (by omega) (len32_take hcl.out s) (by rw [List.length_take, hcn.out]; omega) slf).mono ?_
        rintro e w2 ⟨rfl, h3⟩
        have HSM := Lib.hid (commitS_len (cur.take s) (len32_take hcl.out s))
        have HE : Hid (pathS (cur.drop s) (k - s) ++ (out ++ [commitS (cur.take s)]).reverse = pathS hs i) := (show _ = _ by rw [← he.out, HHI.out (by omega)]; simp)
        generalize commitS (cur.take s) = sm at *
        unfold hv
        have ho2 := ho.to h3
        have sl2 := slb.to h3
        have hb2 := hb.trans (h3.mono hb.size)
        have hs2z := hb2.size
        have hob := ho2.lt
        clear slf slb sl ho h3 hb hsz
        have hbl2 : (B8 sm).length = 32 := by rw [B8_len, HSM.out]
        go_wp2_with (first
          | (at_builtin
             rw [fold_sum' sm HSM.out]
             refine wpl_push _ _ _ elH rfl rfl rfl ho2 rfl (by rw [List.size_toArray, B8_len, HSM.out]) (by intro u hu; exact B8_one _ u (by simpa using hu)) (by omega) (by omega) hs2z ?_
             intro A3 c3 w3 g3 h3 gb3))
        have o3 : Own w3 w.heap.size 27 32 A3 (out ++ [sm]).length c3 (H8 (out ++ [sm])) := by
          have := g3.own
          rw [H8_snoc, List.length_append]
          exact this
        have sl3 : Sl w3 32 (some ⟨b, of + s * 32, none⟩) (m - s) (H8 (cur.drop s)) := sl2.but gb3 (by
          intro e
          have := (hob b e.symm).1
          omega)
        clear g3 gb3
        go_roundw
        case rel => exact ⟨cur.drop s, out ++ [sm], A3, of + s * 32, m - s, c2 - s, c3, k - s, rfl, by rw [← u2], by simp, by omega, by omega, by omega, (by show _ ≤ _; have := hc2.out; omega), len32_drop hcl.out s, (by show _ = _; rw [List.length_drop, hcn.out]), (by
            intro x hx
            rcases List.mem_append.1 hx with h | h
            · exact hol.out x h
            · simp at h; rw [h]; exact HSM.out), HE, sl3, o3, hb2.trans h3⟩
        case measure => simp; omega
    · have t1 : ¬ (1 : Int) < (m : Int) := by omega
      have HO : Hid (out.reverse = pathS hs i) := (show _ = _ by rw [← he.out, pathS_one k (by rw [hcn.out]; omega)]; rfl)
      go_wp2_with fail
      refine (reverse_H Ao out.length co w.heap.size out wr ho hol.out rfl (by omega)).mono ?_
      rintro e w2 ⟨rfl, ho2, hbu⟩
      have hb2 := below_grown hb hbu hsz (fun k hk => (ho.lt k hk).1)
      rw [HO.out] at ho2
      have hl2 : Hid (out.length = (pathS hs i).length) := (show _ = _ by rw [← HO.out]; simp)
      go_wp2_with fail
      refine (clone_H Ao out.length co (H8 (pathS hs i)) w2 ho2.sl (H8_one _) (by omega)).mono ?_
      rintro e w3 ⟨A3, n3, c3, rfl, ho3, hb3⟩
      have hn3 : n3 = (pathS hs i).length := by
        have h1 := ho3.len
        have h2 := ho2.len
        have h3 := hl2.out
        omega
      go_wp2_with fail
      go_ret2
      rw [hn3] at ho3
      exact ⟨A3, c3, rfl, ho3.mono hb2.size, hb2.trans (hb3.mono hb2.size)⟩
end Go.Proofs.Ytakebmpnbdlcoaa
