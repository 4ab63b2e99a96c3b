/- The walk of capstanlaw2.ShaHex. -/
import Derived.Test.YtaaiembhdfgkjaaTwo
namespace Go.Proofs.Ytaaiembhdfgkjaa
open Go.RowKit
theorem run_index_str {P : Program} {t : TypeId} (ht : P.underlying t = some .string) (l : List UInt8) (k : Nat) (y : UInt8) (hy : l[k]? = some y) (w : World) :
    (Instr.index t (.string (str l)) (.int .i64 (k : Int))).run P w = .ok (.int .u8 (y.toNat : Int)) w := by
  obtain ⟨hk, he⟩ := List.getElem?_eq_some_iff.1 hy
  have hs : (str l).size = l.length := by show l.toArray.size = _; simp
  rw [run_index_string w t _ .i64 (k : Int) ht, dif_pos ⟨by omega, by rw [hs]; omega⟩]
  simp only [Int.toNat_natCast]
  rw [← he]
  rfl
theorem hexS_at (h : List UInt8) : ∀ (i : Nat) (y : UInt8), h[i]? = some y → (hexS h)[2 * i]? = some (dig (y.toNat / 16)) ∧ (hexS h)[2 * i + 1]? = some (dig (y.toNat % 16)) := by
  induction h with
  | nil => intro i y hy; simp at hy
  | cons a l ih =>
    intro i y hy
    have e : hexS (a :: l) = dig (a.toNat / 16) :: dig (a.toNat % 16) :: hexS l := rfl
    rcases i with _ | i
    · simp at hy
      subst hy
      rw [e]
      exact ⟨rfl, rfl⟩
    · have := ih i y (by simpa using hy)
      rw [e, show 2 * (i + 1) = 2 * i + 1 + 1 from by omega]
      simpa using this
theorem dig_nat (d : Nat) (h : d < 16) : (dig d).toNat = if d < 10 then 48 + d else 87 + d := by
  unfold dig
  split
  · rw [UInt8.toNat_ofNat']; omega
  · rw [UInt8.toNat_ofNat']; omega
set_option maxRecDepth 100000 in
set_option maxHeartbeats 2000000 in
theorem shaHex_walk (w : World) (h : List UInt8) (hh : h.length = 32) : Calls Try.prog 5 #[hv h] w (RB true w) := by
  unfold hv
  have b1 : Blk (w.alloc (.cells (B8 h).toArray 26)) w.heap.size 26 (B8 h) := Blk.new w _ _
  have hb1 : Below w.heap.size w (w.alloc (.cells (B8 h).toArray 26)) := (Below.refl _ _).alloc (Nat.le_refl _) _
  have HH := Lib.hid hh
  have l64 : (str (hexS h)).size = 64 := by show (hexS h).toArray.size = 64; simp [hexS_len, hh]
  clear hh
  go_enter Try.func5, Try.ntmps5
  go_upto_region 1 with fail
  generalize w.alloc (.cells (B8 h).toArray 26) = W at *
  generalize hN : w.heap.size = N at *
  have HN := Lib.hid hN
  clear hN
  go_wp2_with fail
  refine (shaKnown_any W).mono ?_
  rintro e w1 ⟨rfl, h1⟩
  have b2 := b1.to h1
  have f1 := hb1.trans (h1.mono (by have := b1.lt; omega))
  go_wp2_with (first
    | (refine wpl_load_blk rfl _ _ rfl N rfl 26 (B8 h) _ b2 Try.underlying26 rfl (info_hash HH.out) ?_))
  refine (hex_any h HH.out w1).mono ?_
  rintro e w2 ⟨rfl, h2⟩
  have b3 := b2.to h2
  have f2 := f1.trans (h2.mono (by have := b2.lt; omega))
  clear b1 b2 hb1 h1 h2 f1
  go_wp2_with fail
  clear l64
  go_loop [4] (fun v => ∃ i : Nat, i ≤ 32 ∧ v = .int .i64 i) (fun v => 32 - (intOf v).toNat)
  case atStart => exact ⟨0, by omega, rfl⟩
  case round =>
    obtain ⟨i, hi, rfl⟩ := hrel
    by_cases hlt : i < 32
    · have t1 : (i : Int) < 32 := by omega
      obtain ⟨y, hy⟩ : ∃ y, h[i]? = some y := ⟨_, List.getElem?_eq_getElem (by have := HH.out; omega)⟩
      obtain ⟨a0, a1⟩ := hexS_at h i y hy
      obtain ⟨p0, hp0⟩ : ∃ p, p = 2 * i := ⟨_, rfl⟩
      obtain ⟨p1, hp1⟩ : ∃ p, p = 2 * i + 1 := ⟨_, rfl⟩
      rw [← hp0] at a0
      rw [← hp1] at a1
      have i0 := run_index_str (P := Try.prog) Try.underlying9 (hexS h) p0 _ a0
      have i1 := run_index_str (P := Try.prog) Try.underlying9 (hexS h) p1 _ a1
      have q0 : 2 * (i : Int) = (p0 : Int) := by omega
      have q1 : (p0 : Int) + 1 = (p1 : Int) := by omega
      have hyl := y.toNat_lt
      obtain ⟨dq, hdq⟩ : ∃ d, d = y.toNat / 16 := ⟨_, rfl⟩
      obtain ⟨dr, hdr⟩ : ∃ d, d = y.toNat % 16 := ⟨_, rfl⟩
      have cy := b3.cell i
      rw [B8, List.getElem?_map, hy] at cy
      simp only [Option.map_some, b8] at cy
      rw [← hdq] at i0
      rw [← hdr] at i1
      have e0 := dig_nat dq (by omega)
      have e1 := dig_nat dr (by omega)
      have hyd : y.toNat = 16 * dq + dr := by omega
      have hdq16 : dq < 16 := by omega
      have hdr16 : dr < 16 := by omega
      have HYD := Lib.hid hyd
      obtain ⟨c0, hc0⟩ : ∃ c, c = (dig dq).toNat := ⟨_, rfl⟩
      obtain ⟨c1, hc1⟩ : ∃ c, c = (dig dr).toNat := ⟨_, rfl⟩
      rw [← hc0] at i0 e0
      rw [← hc1] at i1 e1
      have E0 := Lib.hid e0
      have E1 := Lib.hid e1
      clear hc0 hc1 hdq hdr a0 a1 hp0 hp1 hy e0 e1 hyd
      go_wp2_with fail
      go_loop [5, 6] (fun n k => ∃ a b : Int, n = .int .i64 a ∧ k = .int .i64 b ∧ ((b = 0 ∧ a = 0) ∨ (b = 1 ∧ a = dq) ∨ (b = 2 ∧ a = y.toNat))) (fun _ k => (2 - intOf k).toNat)
      case atStart => exact ⟨0, 0, rfl, rfl, .inl ⟨rfl, rfl⟩⟩
      case round =>
        obtain ⟨a, b, rfl, rfl, hab⟩ := hrel
        rcases hab with ⟨rfl, rfl⟩ | ⟨rfl, rfl⟩ | ⟨rfl, rfl⟩
        · have e0 := E0.out
          by_cases hd : dq < 10
          · rw [if_pos hd] at e0
            have l1 : (48 : Int) ≤ (c0 : Int) := by omega
            have l2 : (c0 : Int) ≤ 57 := by omega
            have l3 : (c0 : Int) - 48 = (dq : Int) := by omega
            clear e0
            go_wp2
            go_round
            case rel => exact ⟨_, 1, rfl, rfl, .inr (.inl ⟨rfl, by first | rfl | omega⟩)⟩
            case measure => simp [intOf]
          · rw [if_neg hd] at e0
            obtain ⟨e, he⟩ : ∃ e, e = dq - 10 := ⟨_, rfl⟩
            have l1 : (48 : Int) ≤ (c0 : Int) := by omega
            have l2 : ¬ (c0 : Int) ≤ 57 := by omega
            have l4 : (97 : Int) ≤ (c0 : Int) := by omega
            have l5 : (c0 : Int) ≤ 102 := by omega
            have l3 : (c0 : Int) - 97 = (e : Int) := by omega
            have l6 : (e : Int) + 10 = (dq : Int) := by omega
            clear e0 he
            go_wp2
            go_round
            case rel => exact ⟨_, 1, rfl, rfl, .inr (.inl ⟨rfl, by first | rfl | omega⟩)⟩
            case measure => simp [intOf]
        · have e1 := E1.out
          have q2 : 16 * (dq : Int) + (dr : Int) = (y.toNat : Int) := by have := HYD.out; omega
          by_cases hd : dr < 10
          · rw [if_pos hd] at e1
            have l1 : (48 : Int) ≤ (c1 : Int) := by omega
            have l2 : (c1 : Int) ≤ 57 := by omega
            have l3 : (c1 : Int) - 48 = (dr : Int) := by omega
            clear e1
            go_wp2
            go_round
            case rel => exact ⟨_, 2, rfl, rfl, .inr (.inr ⟨rfl, by first | rfl | omega⟩)⟩
            case measure => simp [intOf]
          · rw [if_neg hd] at e1
            obtain ⟨e, he⟩ : ∃ e, e = dr - 10 := ⟨_, rfl⟩
            have l1 : (48 : Int) ≤ (c1 : Int) := by omega
            have l2 : ¬ (c1 : Int) ≤ 57 := by omega
            have l4 : (97 : Int) ≤ (c1 : Int) := by omega
            have l5 : (c1 : Int) ≤ 102 := by omega
            have l3 : (c1 : Int) - 97 = (e : Int) := by omega
            have l6 : (e : Int) + 10 = (dr : Int) := by omega
            clear e1 he
            go_wp2
            go_round
            case rel => exact ⟨_, 2, rfl, rfl, .inr (.inr ⟨rfl, by first | rfl | omega⟩)⟩
            case measure => simp [intOf]
        · go_wp2
          go_round
          case rel => exact ⟨i + 1, by omega, by go_num⟩
          case measure => simp [intOf]; omega
    · have t1 : ¬ (i : Int) < 32 := by omega
      go_wp2
      go_ret
      exact ⟨rfl, by rw [HN.out]; exact f2⟩
end Go.Proofs.Ytaaiembhdfgkjaa
