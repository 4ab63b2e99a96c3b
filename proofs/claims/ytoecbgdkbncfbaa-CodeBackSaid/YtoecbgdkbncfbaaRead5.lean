/- The reader's faces End and Fail, by the reader's state. -/
import Derived.Test.YtoecbgdkbncfbaaRead4
namespace Go.Proofs.Ytoecbgdkbncfbaa
open Go.RowKit
def stEnd (s : List UInt8 × Int) : Int := if s.2 = 0 then endOf s.1.length else s.2
theorem rEnd_any (p : Nat) (s : List UInt8 × Int) (w : World) (hr : Rd w p s.1 s.2) :
    Calls Try.prog 22 #[.pointer (some ⟨p, 0, none⟩)] w fun en w' => en = .returned (.int .i64 (stEnd s)) ∧ w = w' := by
  obtain ⟨rest, e⟩ := s
  obtain ⟨A, n, c, hc, hx⟩ := hr
  by_cases h0 : e = 0
  · subst h0
    have hn := (hx rfl).2.2.1.len8
    rw [show stEnd (rest, 0) = endOf n by rw [hn]; rfl]
    exact end_ok p A n c w hc
  · rw [show stEnd (rest, e) = e by simp [stEnd, h0]]
    exact end_err p A n c e w hc h0
def stFail (s : List UInt8 × Int) (f : Int) : List UInt8 × Int := if s.2 = 0 then (s.1, f) else s
theorem rFail_any (p : Nat) (s : List UInt8 × Int) (f : Int) (w : World) (hr : Rd w p s.1 s.2) :
    Calls Try.prog 29 #[.pointer (some ⟨p, 0, none⟩), .int .i64 f] w (RFace w p (.tuple #[]) (stFail s f)) := by
  obtain ⟨rest, e⟩ := s
  obtain ⟨A, n, c, hc, hx⟩ := hr
  refine (fail_any p A n c e f w hc).mono ?_
  rintro en w' ⟨rfl, h1, h2⟩
  refine ⟨rfl, ?_, h2⟩
  by_cases h0 : e = 0
  · subst h0
    obtain ⟨g1, g2, g3, g4⟩ := hx rfl
    simp only [firstErr, if_true] at h1
    rw [show stFail (rest, 0) f = (rest, f) by simp [stFail]]
    refine ⟨A, n, c, h1, fun _ => ⟨g1, g2, g3.but2 h2 (fun b hb h => ?_), g4⟩⟩
    injection h with h
    rcases g4 with rfl | ⟨b', o, rfl, hne⟩
    · cases hb
    · simp at hb; omega
  · rw [show stFail (rest, e) f = (rest, e) by simp [stFail, h0]]
    simp only [firstErr, if_neg h0] at h1
    exact ⟨A, n, c, h1, fun h => absurd h h0⟩
theorem Rd.keepE {w w' : World} {p : Nat} {rest : List UInt8} {e : Int} (h : Rd w p rest e) (he : e ≠ 0) (hb : w'.heap[p]? = w.heap[p]?) : Rd w' p rest e := by
  obtain ⟨A, n, c, h1, _⟩ := h
  exact (h1.keep hb).err he
theorem dec_cut_len : ∀ (l : List UInt8) (k acc : Nat), k ≤ 9 → dec k acc l = .cut → k + l.length < 10
  | [], k, acc, hk, _ => by simp; omega
  | c :: l, k, acc, hk, h => by
    unfold dec at h
    split at h
    · cases h
    · split at h
      · cases h
      · have := dec_cut_len l (k + 1) _ (by omega) h
        simp
        omega
end Go.Proofs.Ytoecbgdkbncfbaa
