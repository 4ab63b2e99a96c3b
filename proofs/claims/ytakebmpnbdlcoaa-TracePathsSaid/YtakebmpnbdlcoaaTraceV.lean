/- Walks: on which side each step of a way goes (trace.sides). -/
import Derived.Test.YtakebmpnbdlcoaaTraceQ
import Derived.Test.YtakebmpnbdlcoaaTraceH
import Derived.Test.YtakebmpnbdlcoaaStruct
set_option linter.unusedSimpArgs false
set_option linter.unusedVariables false
namespace Go.Proofs.Ytakebmpnbdlcoaa
open Go.RowKit
set_option maxRecDepth 100000
theorem elBool : El Try.prog 81 4 1 1 := El.mk' (z := .bool false) Try.underlying81 (by kernel_rfl) rfl (by decide)
theorem sides_lt {n i : Nat} (h : n ≤ 1073741824) : (sidesS n i).length ≤ 30 := sides_len 30 n i (by simpa using h)
set_option maxRecDepth 100000 in
set_option maxHeartbeats 2000000 in
theorem sides_any (n i : Nat) (w : World) (hn : n ≤ 1073741824) (hi : i < n) :
    Calls Try.prog 56 #[.int .i64 (n : Int), .int .i64 (i : Int)] w (RSl w 4 1 ((sidesS n i).map Value.bool)) := by
  have HS := Lib.hid (sides_lt (i := i) hn)
  go_enter Try.func56, Try.ntmps56
  go_wp2_with fail
  go_loopw [0, 1, 5] (fun a b l wr => ∃ (m k : Nat) (out : List Bool) (A : Option Addr) (c : Nat), a = .int .i64 (m : Int) ∧ b = .int .i64 (k : Int) ∧ l = .slice A out.length c ∧ m ≤ n ∧ k < m ∧ Hid (out ++ sidesS m k = sidesS n i) ∧ Own wr w.heap.size 4 1 A out.length c (out.map Value.bool) ∧ Below w.heap.size w wr) (fun a _ _ _ => (intOf a).toNat)
  case atStart => exact ⟨n, i, [], none, 0, rfl, rfl, rfl, Nat.le_refl _, hi, rfl, Own.nil_, Below.refl _ _⟩
  case round =>
    obtain ⟨m, k, out, A, c, rfl, rfl, rfl, hm, hk, he, ho, hb⟩ := hrel
    have hol : out.length ≤ 30 := by
      have := congrArg List.length he.out
      have := HS.out
      simp only [List.length_append] at *
      omega
    have hsz := hb.size
    by_cases h1 : 2 ≤ m
    · have t1 : (1 : Int) < (m : Int) := by omega
      have hs1 := split_lt (n := m) h1
      have hs2 := split_pos m
      have hlo := @sidesS_lo m k h1
      have hhi := @sidesS_hi m k h1
      have HLO := Lib.hid hlo
      have HHI := Lib.hid hhi
      clear hlo hhi
      go_wp2_with fail
      refine (half_any m wr h1 (by omega)).mono ?_
      rintro e w0 ⟨rfl, rfl⟩
      generalize hsp : splitN m = s at *
      clear hsp
      by_cases h2 : k < s
      · have t2 : ¬ (s : Int) ≤ (k : Int) := by omega
        have E2 : Hid (out ++ [false] ++ sidesS s k = sidesS n i) := (show _ = _ by rw [← he.out, HLO.out h2]; simp)
        go_wp2_with (first
          | (at_builtin
             refine wpl_push _ _ _ elBool rfl rfl rfl ho rfl rfl (by intro u hu; simp at hu; subst hu; rfl) (by omega) (by omega) hsz ?_
             intro A3 c3 w3 g3 h3 _))
        have o3 : Own w3 w.heap.size 4 1 A3 (out ++ [false]).length c3 ((out ++ [false]).map Value.bool) := by
          have := g3.own
          simpa [Nat.not_le.2 h2] using this
        clear g3
        go_roundw
        case rel => exact ⟨s, k, out ++ [false], A3, c3, rfl, rfl, by simp, by omega, h2, E2, o3, hb.trans h3⟩
        case measure => simp [intOf]; omega
      · have t2 : (s : Int) ≤ (k : Int) := by omega
        have E2 : Hid (out ++ [true] ++ sidesS (m - s) (k - s) = sidesS n i) := (show _ = _ by rw [← he.out, HHI.out (by omega)]; simp)
        have u1 : (m : Int) - (s : Int) = ((m - s : Nat) : Int) := by omega
        have u2 : (k : Int) - (s : Int) = ((k - s : Nat) : Int) := by omega
        go_wp2_with (first
          | (at_builtin
             refine wpl_push _ _ _ elBool rfl rfl rfl ho rfl rfl (by intro u hu; simp at hu; subst hu; rfl) (by omega) (by omega) hsz ?_
             intro A3 c3 w3 g3 h3 _))
        have o3 : Own w3 w.heap.size 4 1 A3 (out ++ [true]).length c3 ((out ++ [true]).map Value.bool) := by
          have := g3.own
          simpa using this
        clear g3
        go_roundw
        case rel => exact ⟨m - s, k - s, out ++ [true], A3, c3, by rw [← u1], by rw [← u2], by simp, by omega, by omega, E2, o3, hb.trans h3⟩
        case measure => simp [intOf]; omega
    · have t1 : ¬ (1 : Int) < (m : Int) := by omega
      have E : Hid (out = sidesS n i) := (show _ = _ by rw [← he.out, sidesS_one k (by omega)]; simp)
      go_wp2_with fail
      go_ret
      rw [← E.out]
      exact RSl.mk ho hb
end Go.Proofs.Ytakebmpnbdlcoaa
