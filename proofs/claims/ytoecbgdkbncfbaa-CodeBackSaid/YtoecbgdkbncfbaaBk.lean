/- Plain law of CodeBack: what was written, one behind the other, is read as it was; a byte less is cut. -/
import Derived.Test.YtoecbgdkbncfbaaRead5
namespace Go.Proofs.Ytoecbgdkbncfbaa
open Go.RowKit
def encI (zs : List Int) : List UInt8 := zs.flatMap fun z => enc (zig z)
def encT (ts : List (List UInt8)) : List UInt8 := ts.flatMap fun t => enc (zig (t.length : Int)) ++ t
theorem encI_snoc (zs : List Int) (z : Int) : encI (zs ++ [z]) = encI zs ++ enc (zig z) := by simp [encI]
theorem encT_snoc (ts : List (List UInt8)) (t : List UInt8) : encT (ts ++ [t]) = encT ts ++ enc (zig (t.length : Int)) ++ t := by simp [encT]
def Bd (z : Int) : Prop := -9223372036854775808 ≤ z ∧ z < 9223372036854775808
theorem encI_len (zs : List Int) (h : ∀ z ∈ zs, Bd z) : (encI zs).length ≤ 10 * zs.length := by
  induction zs with
  | nil => simp [encI]
  | cons z zs ih =>
    have h1 := h z (by simp)
    have h2 := ih (fun y hy => h y (by simp [hy]))
    have h3 := enc_le (zig_lt h1.1 h1.2)
    simp only [encI, List.flatMap_cons, List.length_append, List.length_cons] at h2 ⊢
    omega
theorem encT_len (ts : List (List UInt8)) (h : ∀ t ∈ ts, t.length ≤ 200) : (encT ts).length ≤ 210 * ts.length := by
  induction ts with
  | nil => simp [encT]
  | cons t ts ih =>
    have h1 := h t (by simp)
    have h2 := ih (fun y hy => h y (by simp [hy]))
    have h3 := enc_le (zig_lt (n := (t.length : Int)) (by omega) (by omega))
    simp only [encT, List.flatMap_cons, List.length_append, List.length_cons] at h2 ⊢
    omega
def stepI (a : (List UInt8 × Int) × Bool) (z : Int) : (List UInt8 × Int) × Bool := ((stInt a.1).2, ((stInt a.1).1 == z) && a.2)
def stepT (a : (List UInt8 × Int) × Bool) (t : List UInt8) : (List UInt8 × Int) × Bool := ((stText a.1).2, decide ((stText a.1).1 = t) && a.2)
def stepH (l h : List UInt8) : (List UInt8 × Int) × Bool := ((stHash (l, 0)).2, decide ((stHash (l, 0)).1 = h))
theorem zig_nat (n : Nat) : zig (n : Int) = 2 * n := by unfold zig; rw [if_neg (by omega)]; omega
theorem foldI_ok : ∀ (zs : List Int) (r : List UInt8) (b : Bool), (∀ z ∈ zs, Bd z) → zs.foldl stepI ((encI zs ++ r, 0), b) = ((r, 0), b)
  | [], r, b, _ => by simp [encI]
  | z :: zs, r, b, h => by
    have h1 := h z (by simp)
    have e1 : encI (z :: zs) ++ r = enc (zig z) ++ (encI zs ++ r) := by simp [encI]
    have e2 : stepI ((encI (z :: zs) ++ r, 0), b) z = ((encI zs ++ r, 0), b) := by
      rw [e1]
      simp [stepI, stInt, dec_enc0 (zig z) _ (zig_lt h1.1 h1.2), zag_zig]
    rw [List.foldl_cons, e2]
    exact foldI_ok zs r b (fun y hy => h y (by simp [hy]))
theorem stText_ok' (t r : List UInt8) (h : t.length ≤ 65535) : stText (enc (zig (t.length : Int)) ++ (t ++ r), 0) = (t, (r, 0)) := by
  unfold stText
  rw [if_pos rfl]
  dsimp only
  rw [dec_enc0 (zig (t.length : Int)) _ (zig_lt (by omega) (by omega))]
  dsimp only
  rw [zag_zig, if_neg (by omega), Int.toNat_natCast, if_neg (by simp)]
  simp
theorem foldT_ok : ∀ (ts : List (List UInt8)) (r : List UInt8) (b : Bool), (∀ t ∈ ts, t.length ≤ 200) → ts.foldl stepT ((encT ts ++ r, 0), b) = ((r, 0), b)
  | [], r, b, _ => by simp [encT]
  | t :: ts, r, b, h => by
    have h1 := h t (by simp)
    have e1 : encT (t :: ts) ++ r = enc (zig (t.length : Int)) ++ (t ++ (encT ts ++ r)) := by simp [encT]
    have e2 : stepT ((encT (t :: ts) ++ r, 0), b) t = ((encT ts ++ r, 0), b) := by
      rw [e1]
      simp [stepT, stText_ok' t _ (by omega : t.length ≤ 65535)]
    rw [List.foldl_cons, e2]
    exact foldT_ok ts r b (fun y hy => h y (by simp [hy]))
theorem back_ok (h : List UInt8) (zs : List Int) (ts : List (List UInt8)) (r : List UInt8) (hh : h.length = 32) (hz : ∀ z ∈ zs, Bd z) (ht : ∀ t ∈ ts, t.length ≤ 200) :
    ts.foldl stepT (zs.foldl stepI (stepH (h ++ encI zs ++ encT ts ++ r) h)) = ((r, 0), true) := by
  have e0 : stepH (h ++ encI zs ++ encT ts ++ r) h = ((encI zs ++ (encT ts ++ r), 0), true) := by
    have : ¬ (32 + ((encI zs).length + ((encT ts).length + r.length)) < 32) := by omega
    simp [stepH, stHash, hh, this]
  rw [e0, foldI_ok zs _ _ hz, foldT_ok ts _ _ ht]
/-- a byte is missing at the end -/
def Sh (s : List UInt8 × Int) (y : List UInt8) : Prop := s.2 = 8 ∨ (s.2 = 0 ∧ ∃ x, s.1 ++ [x] = y)
/-- a proper front of a number is cut -/
theorem dec_front : ∀ (k u acc : Nat) (l : List UInt8) (x : UInt8), (0 < k → 0 < u) → u < 2 ^ (64 - 7 * k) → k ≤ 9 → l ++ [x] = enc u → dec k acc l = .cut := by
  intro k
  induction hm : 9 - k generalizing k with
  | zero =>
    intro u acc l x hp hu hk he
    have hu2 : u < 128 := by
      have : k = 9 := by omega
      subst this
      exact Nat.lt_of_lt_of_le hu (by decide)
    rw [enc_lo hu2] at he
    have : l = [] := by
      rcases l with _ | ⟨a, l⟩
      · rfl
      · simp at he
    subst this
    exact dec_nil _ _
  | succ m ih =>
    intro u acc l x hp hu hk he
    by_cases h128 : u < 128
    · rw [enc_lo h128] at he
      have : l = [] := by
        rcases l with _ | ⟨a, l⟩
        · rfl
        · simp at he
      subst this
      exact dec_nil _ _
    · rw [enc_hi h128] at he
      rcases l with _ | ⟨a, l⟩
      · exact dec_nil _ _
      · simp only [List.cons_append, List.cons.injEq] at he
        obtain ⟨rfl, he⟩ := he
        have hc : (UInt8.ofNat (u % 128 + 128)).toNat = u % 128 + 128 := by
          rw [UInt8.toNat_ofNat']
          omega
        rw [dec_more (by rw [hc]; omega) (by rw [hc]; omega)]
        refine ih (k + 1) (by omega) (u / 128) _ l x (by omega) ?_ (by omega) he
        have e1 : 2 ^ (64 - 7 * k) = 128 * 2 ^ (64 - 7 * (k + 1)) := by
          have e2 : 64 - 7 * k = 7 + (64 - 7 * (k + 1)) := by omega
          rw [e2, Nat.pow_add]
        rw [e1] at hu
        exact Nat.div_lt_of_lt_mul hu
theorem dec_front0 {u : Nat} {l : List UInt8} {x : UInt8} (h : u < 18446744073709551616) (he : l ++ [x] = enc u) : dec 0 0 l = .cut := dec_front 0 u 0 l x (by omega) (by simpa using h) (by omega) he
/-- where a front ends with the byte that is missing -/
theorem snoc_split {a l y : List UInt8} {x : UInt8} (h : l ++ [x] = a ++ y) : (y = [] ∧ l ++ [x] = a) ∨ ∃ y', y = y' ++ [x] ∧ l = a ++ y' := by
  rcases List.eq_nil_or_concat y with rfl | ⟨y', z, rfl⟩
  · exact .inl ⟨rfl, by simpa using h⟩
  · right
    rw [List.concat_eq_append, ← List.append_assoc] at h
    obtain ⟨h1, h2⟩ := List.append_inj' h rfl
    simp only [List.cons.injEq, and_true] at h2
    subst h2
    exact ⟨y', by simp, h1⟩
theorem stepI_sh {a : (List UInt8 × Int) × Bool} {z : Int} {y : List UInt8} (hz : Bd z) (h : Sh a.1 (enc (zig z) ++ y)) : Sh (stepI a z).1 y := by
  obtain ⟨⟨l, e⟩, b⟩ := a
  rcases h with h | ⟨h, x, hx⟩
  · simp only at h
    subst h
    exact .inl (by simp [stepI, stInt])
  · simp only at h hx
    subst h
    rcases snoc_split hx with ⟨rfl, h1⟩ | ⟨y', rfl, rfl⟩
    · left
      simp [stepI, stInt_cut (dec_front0 (zig_lt hz.1 hz.2) h1)]
    · right
      simp [stepI, stInt, dec_enc0 (zig z) _ (zig_lt hz.1 hz.2)]
theorem stepT_sh {a : (List UInt8 × Int) × Bool} {t y : List UInt8} (ht : t.length ≤ 200) (h : Sh a.1 (enc (zig (t.length : Int)) ++ t ++ y)) : Sh (stepT a t).1 y := by
  obtain ⟨⟨l, e⟩, b⟩ := a
  have hlt := zig_lt (n := (t.length : Int)) (by omega) (by omega)
  rcases h with h | ⟨h, x, hx⟩
  · simp only at h
    subst h
    exact .inl (by simp [stepT, stText])
  · simp only at h hx
    subst h
    rcases snoc_split hx with ⟨rfl, h1⟩ | ⟨y', rfl, rfl⟩
    · left
      rcases snoc_split h1 with ⟨rfl, h2⟩ | ⟨t', rfl, rfl⟩
      · simp [stepT, stText_cut (dec_front0 hlt h2)]
      · have : stText (enc (zig ((t' ++ [x]).length : Int)) ++ t', 0) = ([], ([], 8)) := by
          unfold stText
          rw [if_pos rfl]
          dsimp only
          rw [dec_enc0 _ _ hlt]
          dsimp only
          rw [zag_zig, if_neg (by omega), Int.toNat_natCast, if_pos (by simp)]
        simp only [stepT, this]
    · right
      have := stText_ok' t y' (by omega)
      simp [stepT, this]
theorem foldI_sh : ∀ (zs : List Int) (a : (List UInt8 × Int) × Bool) (y : List UInt8), (∀ z ∈ zs, Bd z) → Sh a.1 (encI zs ++ y) → Sh (zs.foldl stepI a).1 y
  | [], a, y, _, h => by simpa [encI] using h
  | z :: zs, a, y, hz, h => by
    rw [List.foldl_cons]
    refine foldI_sh zs _ y (fun y hy => hz y (by simp [hy])) (stepI_sh (hz z (by simp)) ?_)
    have e1 : encI (z :: zs) ++ y = enc (zig z) ++ (encI zs ++ y) := by simp [encI]
    rwa [e1] at h
theorem foldT_sh : ∀ (ts : List (List UInt8)) (a : (List UInt8 × Int) × Bool) (y : List UInt8), (∀ t ∈ ts, t.length ≤ 200) → Sh a.1 (encT ts ++ y) → Sh (ts.foldl stepT a).1 y
  | [], a, y, _, h => by simpa [encT] using h
  | t :: ts, a, y, ht, h => by
    rw [List.foldl_cons]
    refine foldT_sh ts _ y (fun y hy => ht y (by simp [hy])) (stepT_sh (ht t (by simp)) ?_)
    have e1 : encT (t :: ts) ++ y = enc (zig (t.length : Int)) ++ t ++ (encT ts ++ y) := by simp [encT]
    rwa [e1] at h
theorem back_cut (h : List UInt8) (zs : List Int) (ts : List (List UInt8)) (l : List UInt8) (x : UInt8) (hh : h.length = 32) (hz : ∀ z ∈ zs, Bd z) (ht : ∀ t ∈ ts, t.length ≤ 200)
    (hl : l ++ [x] = h ++ encI zs ++ encT ts) : (ts.foldl stepT (zs.foldl stepI (stepH l h))).1.2 = 8 := by
  have h1 : Sh (stepH l h).1 (encI zs ++ encT ts) := by
    rw [List.append_assoc] at hl
    rcases snoc_split hl with ⟨h0, h1⟩ | ⟨y', h0, rfl⟩
    · left
      have : l.length < 32 := by have := congrArg List.length h1; simp [hh] at this; omega
      simp [stepH, stHash, this]
    · right
      rw [h0]
      have : ¬ (32 + y'.length < 32) := by omega
      simp [stepH, stHash, hh, this]
  have h2 := foldI_sh zs _ (encT ts) hz h1
  have h3 := foldT_sh ts (zs.foldl stepI (stepH l h)) [] ht (by simpa using h2)
  rcases h3 with h3 | ⟨_, x, h3⟩
  · exact h3
  · simp at h3
end Go.Proofs.Ytoecbgdkbncfbaa
