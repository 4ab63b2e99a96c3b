/- Arguments: slices of sums. -/
import Derived.Test.YtakebmpnbdlcoaaArgs
import Derived.Test.YtakebmpnbdlcoaaGame
set_option linter.unusedSimpArgs false
set_option linter.unusedVariables false
namespace Go.Proofs.Ytakebmpnbdlcoaa
open Go.ChangeShapes Go.WideShapes Go.ChangeAt Go.RowKit
section
variable {H : Type} {enc : TypeId × Value → H} {P : Program} {W : World}
theorem hash_of {t e : TypeId} {m : Nat} {cs : List Value} {d : DataW H} {p : List MemPlace} {k : Nat} (ht : P.underlying t = some (.array k e)) (he : P.underlying e = some (.int .u8)) (hc : P.cellsOf e = 1) (hk : P.cellsOf t = k)
    (hf : DataW.trod enc P W 0 (fun _ => true) true m t cs = some (d, p)) : ∃ g : List UInt8, cs = B8 g ∧ g.length = k := by
  obtain ⟨xs, m, _, _, hl, hx, hall⟩ := DataW.trod_array ht hf
  have hlen : cs.length = k := by rw [hl, hk]
  refine ⟨cs.map u8of, ?_, by simpa using hlen⟩
  have key : B8 (cs.map u8of) = cs := by
    unfold B8
    rw [List.map_map]
    conv => rhs; rw [← List.map_id cs]
    refine List.map_congr_left fun c hcm => ?_
    obtain ⟨i, hi, rfl⟩ := List.mem_iff_getElem.1 hcm
    have hi2 : i < k := by omega
    have h1 := hall i hi2
    rw [hc, Nat.mul_one] at h1
    rw [List.getElem?_eq_getElem (by omega)] at h1
    have e1 : (cs.drop i).take 1 = [cs[i]] := by
      rw [List.drop_eq_getElem_cons hi]
      rfl
    rw [e1] at h1
    obtain ⟨n, h2, _, h3⟩ := DataW.trod_int he h1
    simp only [List.cons.injEq, and_true] at h2
    rw [h2]
    simp [Lit.wf, IntKind.min, IntKind.max, IntKind.signed, IntKind.bits] at h3
    simp only [Function.comp, u8of, b8, id, UInt8.toNat_ofNat']
    congr 1
    omega
  exact key.symm
theorem H8_build : ∀ (n : Nat) (F : Nat → List UInt8), (∀ i, i < n → (F i).length = 32) → ∀ j u, (H8 ((List.range n).map F))[j]? = some u → j < n * 32 ∧ (B8 (F (j / 32)))[j % 32]? = some u
  | 0, F, h, j, u, hu => by simp [H8] at hu
  | n + 1, F, h, j, u, hu => by
    have hl : (H8 ((List.range n).map F)).length = n * 32 := by
      have : ∀ (m : Nat), m ≤ n → (H8 ((List.range m).map F)).length = m * 32 := by
        intro m
        induction m with
        | zero => intro _; rfl
        | succ m ih =>
          intro hm
          have := ih (by omega)
          rw [List.range_succ, List.map_append, H8, List.flatMap_append, List.length_append]
          simp only [List.map_cons, List.map_nil, List.flatMap_cons, List.flatMap_nil, List.append_nil, B8_len, h m (by omega)]
          rw [H8] at this
          omega
      exact this n (Nat.le_refl _)
    rw [List.range_succ, List.map_append, H8, List.flatMap_append] at hu
    simp only [List.map_cons, List.map_nil, List.flatMap_cons, List.flatMap_nil, List.append_nil] at hu
    by_cases hj : j < n * 32
    · rw [List.getElem?_append_left (by rw [H8] at hl; omega)] at hu
      have ih := H8_build n F (fun i hi => h i (by omega)) j u hu
      exact ⟨by omega, ih.2⟩
    · rw [List.getElem?_append_right (by rw [H8] at hl; omega)] at hu
      rw [show (List.flatMap B8 ((List.range n).map F)).length = n * 32 from hl] at hu
      have hlt := (List.getElem?_eq_some_iff.1 hu).1
      rw [B8_len, h n (by omega)] at hlt
      refine ⟨by omega, ?_⟩
      rw [show j / 32 = n from by omega, show j % 32 = j - n * 32 from by omega]
      exact hu
theorem arg_hashes {t e q : TypeId} {v : Value} {d : DataW H} {p : List MemPlace} {r : Reach} {base : Nat} (ht : P.underlying t = some (.slice e)) (he : P.underlying e = some (.array 32 q)) (hq : P.underlying q = some (.int .u8)) (hc : P.cellsOf q = 1) (hk : P.cellsOf e = 32)
    (hv : Value.okWide P W r base t v) (h : DataW.Trod enc P W 0 (fun _ => true) true t v d p) :
    ∃ (A : Option Addr) (n c : Nat) (hs : List (List UInt8)), v = .slice A n c ∧ n ≤ c ∧ c ≤ maxLen ∧ (∀ x ∈ hs, x.length = 32) ∧ hs.length = n ∧ Sl W 32 A n (H8 hs) := by
  obtain ⟨A, n, c, rfl⟩ := okWide_slice ht hv
  obtain ⟨fuel, hf⟩ := h
  rcases Go.Deep.open_slice ht hf with ⟨hcs, _⟩ | ⟨x, l, c', m, fu, D, Pl, hcs, _, hl, hm, hmm, _, hx⟩
  · simp [Value.cells] at hcs
    obtain ⟨rfl, rfl, rfl⟩ := hcs
    exact ⟨none, 0, 0, [], rfl, Nat.le_refl _, Nat.zero_le _, by simp, rfl, Sl.nil_⟩
  · simp [Value.cells] at hcs
    obtain ⟨rfl, rfl, rfl⟩ := hcs
    simp only [if_true] at hmm
    have key : ∀ i, i < n → ∃ g : List UInt8, g.length = 32 ∧ ∀ j, j < 32 → W.cell? ((x.add (i * 32)).add j) = (B8 g)[j]? := by
      intro i hi
      obtain ⟨cs', h1, h2⟩ := hx i (by omega)
      rw [hk] at h1
      obtain ⟨_, hl', hc'⟩ := World.cells?_some h1
      obtain ⟨g, rfl, hg⟩ := hash_of he hq hc hk h2
      exact ⟨g, hg, hc'⟩
    have hF : ∃ F : Nat → List UInt8, ∀ i, i < n → (F i).length = 32 ∧ ∀ j, j < 32 → W.cell? ((x.add (i * 32)).add j) = (B8 (F i))[j]? := by
      refine ⟨fun i => if h : i < n then Classical.choose (key i h) else [], fun i hi => ?_⟩
      simp only [dif_pos hi]
      exact Classical.choose_spec (key i hi)
    obtain ⟨F, hF⟩ := hF
    have hlen : ∀ y ∈ (List.range n).map F, y.length = 32 := by
      intro y hy
      obtain ⟨i, hi, rfl⟩ := List.mem_map.1 hy
      exact (hF i (List.mem_range.1 hi)).1
    have hH8 : ∀ (hs : List (List UInt8)), (∀ y ∈ hs, y.length = 32) → (H8 hs).length = hs.length * 32 := by
      intro hs
      induction hs with
      | nil => intro _; rfl
      | cons a hs ih =>
        intro h
        have := ih (fun y hy => h y (by simp [hy]))
        have h1 := h a (by simp)
        simp only [H8, List.flatMap_cons, List.length_append, B8_len, List.length_cons] at this ⊢
        omega
    refine ⟨some x, n, c, (List.range n).map F, rfl, hl, hm, hlen, by simp, ⟨by rw [hH8 _ hlen]; simp, fun hn => ?_⟩⟩
    have h0 := (hF 0 hn).2 0 (by decide)
    have hB0 : ∃ v0, (B8 (F 0))[0]? = some v0 := ⟨_, List.getElem?_eq_getElem (by rw [B8_len, (hF 0 hn).1]; decide)⟩
    obtain ⟨v0, hv0⟩ := hB0
    rw [hv0] at h0
    have hz0 : (x.add (0 * 32)).add 0 = x := by simp [Addr.add]
    rw [hz0] at h0
    obtain ⟨b, o, rfl, hb⟩ := spot_of h0
    refine ⟨b, o, rfl, hb, fun j u hu => ?_⟩
    obtain ⟨hj, hu2⟩ := H8_build n F (fun i hi => (hF i hi).1) j u hu
    have := (hF (j / 32) (by omega)).2 (j % 32) (Nat.mod_lt _ (by decide))
    rw [add_off, add_off, hu2, show o + j / 32 * 32 + j % 32 = o + j from by omega] at this
    exact this
end
end Go.Proofs.Ytakebmpnbdlcoaa
