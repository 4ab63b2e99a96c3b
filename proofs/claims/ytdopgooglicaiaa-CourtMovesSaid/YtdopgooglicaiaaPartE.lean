/- The texts of this claim, part E: words, plain laws, walks. -/
import Derived.Test.YtdopgooglicaiaaPartD
import Derived.Test.YtdopgooglicaiaaPartC
import Derived.Lib.AppendZeros
import Derived.Test.YtdopgooglicaiaaPartB
import Derived.Deep.Cut
import Derived.Lib.SlBytesConst
import Derived.IntWalk
/- The walk of capstanref2.Sum. -/
set_option linter.unusedSimpArgs false
set_option linter.unusedVariables false
namespace Go.Proofs.Ytdopgooglicaiaa
open Go.RowKit
set_option maxRecDepth 100000
set_option maxRecDepth 1000000 in
set_option maxHeartbeats 8000000 in
theorem refSum_any (A : Option Addr) (n c : Nat) (bs : List UInt8) (w : World) (hs : Sl w 1 A n (B8 bs)) (hn : n ≤ 1099511627776) :
    Calls Try.prog 40 #[.slice A n c] w fun e w' => e = .returned (hv (shaS bs)) ∧ Below w.heap.size w w' := by
  have HL := Lib.hid hs.len8
  have b2 : Blk (w.alloc (.cells #[.int .u8 0, .int .u8 0, .int .u8 0, .int .u8 0, .int .u8 0, .int .u8 0, .int .u8 0, .int .u8 0, .int .u8 0, .int .u8 0, .int .u8 0, .int .u8 0, .int .u8 0, .int .u8 0, .int .u8 0, .int .u8 0, .int .u8 0, .int .u8 0, .int .u8 0, .int .u8 0, .int .u8 0, .int .u8 0, .int .u8 0, .int .u8 0, .int .u8 0, .int .u8 0, .int .u8 0, .int .u8 0, .int .u8 0, .int .u8 0, .int .u8 0, .int .u8 0] 25)) w.heap.size 25 (B8 (List.replicate 32 0)) := Blk.new w _ _
  have hb0 : Below w.heap.size w (w.alloc (.cells #[.int .u8 0, .int .u8 0, .int .u8 0, .int .u8 0, .int .u8 0, .int .u8 0, .int .u8 0, .int .u8 0, .int .u8 0, .int .u8 0, .int .u8 0, .int .u8 0, .int .u8 0, .int .u8 0, .int .u8 0, .int .u8 0, .int .u8 0, .int .u8 0, .int .u8 0, .int .u8 0, .int .u8 0, .int .u8 0, .int .u8 0, .int .u8 0, .int .u8 0, .int .u8 0, .int .u8 0, .int .u8 0, .int .u8 0, .int .u8 0, .int .u8 0, .int .u8 0] 25)) := (Below.refl _ _).alloc (Nat.le_refl _) _
  go_enter Try.func40, Try.ntmps40
  go_wp2_with fail
  generalize w.alloc (.cells #[.int .u8 0, .int .u8 0, .int .u8 0, .int .u8 0, .int .u8 0, .int .u8 0, .int .u8 0, .int .u8 0, .int .u8 0, .int .u8 0, .int .u8 0, .int .u8 0, .int .u8 0, .int .u8 0, .int .u8 0, .int .u8 0, .int .u8 0, .int .u8 0, .int .u8 0, .int .u8 0, .int .u8 0, .int .u8 0, .int .u8 0, .int .u8 0, .int .u8 0, .int .u8 0, .int .u8 0, .int .u8 0, .int .u8 0, .int .u8 0, .int .u8 0, .int .u8 0] 25) = W at *
  generalize hN : w.heap.size = N at *
  have HN := Lib.hid hN
  clear hN
  have hNW := b2.lt
  obtain ⟨ks, hks⟩ : ∃ ks, ks = shaKs := ⟨_, rfl⟩
  have K := words_any W
  rw [← hks] at K
  have hkl : ks.length = 64 := by rw [hks]; rfl
  refine K.mono ?_
  clear K
  rintro e w1 ⟨rfl, hb1⟩
  have HKS := Lib.hid hks
  have HKL := Lib.hid hkl
  have hW1 := hb1.size
  clear hks hkl
  have hsW := hs.below hb0 (Nat.le_of_eq HN.out)
  go_upto_region 3 with (first
    | (refine wpl_store_new rfl _ _ _ rfl 107 _ (V32 ks) rfl rfl (by rw [V32_len, HKL.out]; rfl) (info_64 HKL.out) (V32_one _) ?_; intro w2 k2 hb2)
    | (refine wpl_store_new rfl _ _ _ rfl 109 _ (V32 shaBegun.list) rfl (by kernel_rfl) rfl (info_8 rfl) (V32_one _) ?_; intro w3 s3 hb3))
  have k3 := k2.to hb3
  have hW2 := hb2.size
  have hW3 := hb3.size
  have hbW3 : Below W.heap.size W w3 := hb1.trans ((hb2.trans (hb3.mono hW2)).mono hW1)
  have k2l := k2.lt
  have s3l := s3.lt
  generalize hpk : w1.heap.size = pK at *
  generalize hps : w2.heap.size = pS at *
  have HPK := Lib.hid hpk
  have HPS := Lib.hid hps
  clear hpk hps k2 hb1 hb2 hb3
  have hW3' := hbW3.size
  go_upto_region 4 with (first
    | (at_builtin
       refine wpl_app _ _ _ _ elB rfl rfl rfl (Own.made w3 w3.heap.size 5 #[] (Nat.le_refl _) (Nat.zero_le _) (by simp)) rfl ((hsW.to hbW3).alloc _) (B8_one _) (by omega) (by omega) (by simp) ?_
       intro A1 c1 wA g4))
  have o4 := g4.own
  simp only [Nat.zero_add, List.nil_append] at o4
  have hb4 : Below w3.heap.size w3 wA := ((Below.refl _ _).alloc (Nat.le_refl _) _).trans (g4.below (Own.made w3 w3.heap.size 5 #[] (Nat.le_refl _) (Nat.zero_le _) (by simp)) (by simp))
  have hW4 := hb4.size
  try rw [Nat.zero_add]
  clear g4 hs hsW
  go_wp2_with (first
    | (at_builtin
       refine wpl_push8 _ _ _ elB rfl rfl rfl o4 rfl 128 rfl (by omega) (by omega) ?_
       intro A2 c2 w5 ho5 hb5 _ _))
  have o5 : Own w5 w3.heap.size 5 1 A2 (n + 1) c2 (B8 (padA bs 0)) := by simpa [padA] using ho5
  have hb5' := hb4.trans hb5
  clear ho5 hb5 o4 hb4 hW4
  go_loopw [5] (fun v wr => ∃ (A' : Option Addr) (c' k : Nat), k ≤ padZ n ∧ v = .slice A' (n + 1 + k) c' ∧ Own wr w3.heap.size 5 1 A' (n + 1 + k) c' (B8 (padA bs k)) ∧ Below w3.heap.size w3 wr) (fun v _ => n + 65 - (match v with | .slice _ m _ => m | _ => 0))
  case atStart => exact ⟨A2, c2, 0, Nat.zero_le _, rfl, o5, hb5'⟩
  case round =>
    clear o5 hb5'
    obtain ⟨A', c', k, hk, rfl, ho, hb⟩ := hrel
    have hz : padZ n < 64 := by unfold padZ; omega
    have hsz := hb.size
    by_cases hlt : k < padZ n
    · have t1 : ((n : Int) + 1 + (k : Int)) % 64 = 56 → False := by unfold padZ at hlt; omega
      have t2 : (((n : Int) + 1 + (k : Int)) % 64 == 56) = false := by simpa using t1
      clear t1
      go_wp2_with (first
        | (at_builtin
           refine wpl_push8 _ _ _ elB rfl rfl rfl ho rfl 0 rfl (by omega) hsz ?_
           intro A3 c3 w3 ho3 hb3 _ _))
      rw [padA_snoc] at ho3
      go_roundw
      case rel => exact ⟨A3, c3, k + 1, by omega, rfl, ho3, hb.trans hb3⟩
      case measure => simp; omega
    · have hkz : k = padZ n := by omega
      have t1 : ((n : Int) + 1 + (k : Int)) % 64 = 56 := by rw [hkz]; unfold padZ; omega
      have HK := Lib.hid hkz
      have HT := Lib.hid t1
      have t2 : (((n : Int) + 1 + (k : Int)) % 64 == 56) = true := by simpa using t1
      have t3 : (((n : Int) + 1 + (k : Int)) % 64 != 56) = false := by rw [bne, t2]; rfl
      clear hkz hk t1 hlt
      obtain ⟨U, hU⟩ : ∃ U, U = 8 * n := ⟨_, rfl⟩
      have u1 : (n : Int) * 8 = (U : Int) := by omega
      have HU := Lib.hid hU
      obtain ⟨L, hL⟩ : ∃ L, L = n + 1 + k := ⟨_, rfl⟩
      rw [← hL] at ho
      have hLb : L ≤ 1099511627776 + 65 := by have := HK.out; omega
      have hL64 : (L + 8) % 64 = 0 := by have := HT.out; omega
      have hLl : L = (padA bs k).length := by rw [padA_len, ← HL.out]; exact hL
      have HLL := Lib.hid hLl
      have HL2 := Lib.hid hL
      clear hU hL hLl
      go_wp2_with fail
      rw [← HL2.out]
      clear t2 t3 u1
      go_loopw [7, 5] (fun v s wr => ∃ (A' : Option Addr) (c' i : Nat), i ≤ 8 ∧ v = .int .i64 (7 - (i : Int)) ∧ s = .slice A' (L + i) c' ∧ Own wr w3.heap.size 5 1 A' (L + i) c' (B8 (padA bs k ++ (be8 U).take i)) ∧ Below w3.heap.size w3 wr) (fun v _ _ => (intOf v + 1).toNat)
      case atStart => exact ⟨A', c', 0, Nat.zero_le _, rfl, rfl, by simpa using ho, hb⟩
      case round =>
        clear ho hb hsz
        obtain ⟨A', c', i, hi, rfl, rfl, ho, hb⟩ := hrel
        have hsz := hb.size
        by_cases hlt : i < 8
        · obtain ⟨e, he⟩ : ∃ e, e = 7 - i := ⟨_, rfl⟩
          obtain ⟨sh, hsh⟩ : ∃ sh, sh = 56 - 8 * i := ⟨_, rfl⟩
          have u2 : 7 - (i : Int) = (e : Int) := by omega
          have u3 : 8 * (e : Int) = (sh : Int) := by omega
          have u4 : (e : Int) < 8 := by omega
          have b1 := be8_at U i hlt
          rw [← hsh] at b1
          have hy : (U : Int) / 2 ^ sh % 256 = ((UInt8.ofNat (U / 2 ^ sh)).toNat : Int) := by rw [u8_ofNat]; simp [Int.natCast_ediv, Int.natCast_pow]
          have HY := Lib.hid hy
          have hsn : (be8 U).take (i + 1) = (be8 U).take i ++ [UInt8.ofNat (U / 2 ^ sh)] := by rw [List.take_add_one, b1]; rfl
          have HS := Lib.hid hsn
          rw [u2]
          clear hsh b1 hy hsn he
          go_wp2_with (first
            | (at_builtin
               refine wpl_push8 _ _ _ elB rfl rfl rfl ho rfl (UInt8.ofNat (U / 2 ^ sh)) HY.out (by omega) hsz ?_
               intro A3 c3 w3 ho3 hb3 _ _))
          rw [List.append_assoc, ← HS.out] at ho3
          go_roundw
          case rel => exact ⟨A3, c3, i + 1, by omega, by congr 1; omega, rfl, ho3, hb.trans hb3⟩
          case measure => simp [intOf]
        · obtain rfl : i = 8 := by omega
          have ep : padA bs k ++ (be8 U).take 8 = pad bs := by rw [pad_eq, ← HL.out, ← HK.out, ← HU.out]; rfl
          rw [ep] at ho
          obtain ⟨Pd, hPd⟩ : ∃ Pd, Pd = pad bs := ⟨_, rfl⟩
          rw [← hPd] at ho
          have HPd := Lib.hid hPd
          clear hPd ep
          have hP64 : Pd.length % 64 = 0 := by rw [HPd.out]; exact pad_len bs
          have hPL : Pd.length = L + 8 := ho.len8.symm
          have hc' := ho.le.1
          have hc2 : c' ≤ 9223372036854775807 := by have := ho.le.2; simp only [maxLen] at this; omega
          obtain ⟨g, rfl, hgW, hgw, hgc⟩ := ho.at8 (by omega)
          clear hgc
          have HPL := Lib.hid hPL
          have HP64 := Lib.hid hP64
          clear hPL hP64
          have so := ho.sl
          have b8 : Blk (wr.alloc (.cells #[.int .u32 0, .int .u32 0, .int .u32 0, .int .u32 0, .int .u32 0, .int .u32 0, .int .u32 0, .int .u32 0, .int .u32 0, .int .u32 0, .int .u32 0, .int .u32 0, .int .u32 0, .int .u32 0, .int .u32 0, .int .u32 0, .int .u32 0, .int .u32 0, .int .u32 0, .int .u32 0, .int .u32 0, .int .u32 0, .int .u32 0, .int .u32 0, .int .u32 0, .int .u32 0, .int .u32 0, .int .u32 0, .int .u32 0, .int .u32 0, .int .u32 0, .int .u32 0, .int .u32 0, .int .u32 0, .int .u32 0, .int .u32 0, .int .u32 0, .int .u32 0, .int .u32 0, .int .u32 0, .int .u32 0, .int .u32 0, .int .u32 0, .int .u32 0, .int .u32 0, .int .u32 0, .int .u32 0, .int .u32 0, .int .u32 0, .int .u32 0, .int .u32 0, .int .u32 0, .int .u32 0, .int .u32 0, .int .u32 0, .int .u32 0, .int .u32 0, .int .u32 0, .int .u32 0, .int .u32 0, .int .u32 0, .int .u32 0, .int .u32 0, .int .u32 0] 107)) wr.heap.size 107 (V32 (List.replicate 64 0)) := Blk.new wr _ _
          have hb8 : Below wr.heap.size wr (wr.alloc (.cells #[.int .u32 0, .int .u32 0, .int .u32 0, .int .u32 0, .int .u32 0, .int .u32 0, .int .u32 0, .int .u32 0, .int .u32 0, .int .u32 0, .int .u32 0, .int .u32 0, .int .u32 0, .int .u32 0, .int .u32 0, .int .u32 0, .int .u32 0, .int .u32 0, .int .u32 0, .int .u32 0, .int .u32 0, .int .u32 0, .int .u32 0, .int .u32 0, .int .u32 0, .int .u32 0, .int .u32 0, .int .u32 0, .int .u32 0, .int .u32 0, .int .u32 0, .int .u32 0, .int .u32 0, .int .u32 0, .int .u32 0, .int .u32 0, .int .u32 0, .int .u32 0, .int .u32 0, .int .u32 0, .int .u32 0, .int .u32 0, .int .u32 0, .int .u32 0, .int .u32 0, .int .u32 0, .int .u32 0, .int .u32 0, .int .u32 0, .int .u32 0, .int .u32 0, .int .u32 0, .int .u32 0, .int .u32 0, .int .u32 0, .int .u32 0, .int .u32 0, .int .u32 0, .int .u32 0, .int .u32 0, .int .u32 0, .int .u32 0, .int .u32 0, .int .u32 0] 107)) := (Below.refl _ _).alloc (Nat.le_refl _) _
          clear ho
          go_wp2_with fail
          generalize wr.alloc (.cells #[.int .u32 0, .int .u32 0, .int .u32 0, .int .u32 0, .int .u32 0, .int .u32 0, .int .u32 0, .int .u32 0, .int .u32 0, .int .u32 0, .int .u32 0, .int .u32 0, .int .u32 0, .int .u32 0, .int .u32 0, .int .u32 0, .int .u32 0, .int .u32 0, .int .u32 0, .int .u32 0, .int .u32 0, .int .u32 0, .int .u32 0, .int .u32 0, .int .u32 0, .int .u32 0, .int .u32 0, .int .u32 0, .int .u32 0, .int .u32 0, .int .u32 0, .int .u32 0, .int .u32 0, .int .u32 0, .int .u32 0, .int .u32 0, .int .u32 0, .int .u32 0, .int .u32 0, .int .u32 0, .int .u32 0, .int .u32 0, .int .u32 0, .int .u32 0, .int .u32 0, .int .u32 0, .int .u32 0, .int .u32 0, .int .u32 0, .int .u32 0, .int .u32 0, .int .u32 0, .int .u32 0, .int .u32 0, .int .u32 0, .int .u32 0, .int .u32 0, .int .u32 0, .int .u32 0, .int .u32 0, .int .u32 0, .int .u32 0, .int .u32 0, .int .u32 0] 107) = V at *
          have sV := so.to hb8
          have hbV : Below w3.heap.size w3 V := hb.trans (hb8.mono hsz)
          have kV := k3.to hbV
          have sSV := s3.to hbV
          have hVl := b8.lt
          generalize hpw : wr.heap.size = pW at *
          have HPW := Lib.hid hpw
          have hSW : pS < w3.heap.size := s3l
          clear hpw hb8 so hb
          have hLP : (L : Int) + 8 = (Pd.length : Int) := by have := HPL.out; omega
          have hPb : Pd.length ≤ 1099511627776 + 100 := by have := HPL.out; omega
          rw [← HPL.out]
          generalize hm : Pd.length = m at *
          have HM := Lib.hid hm
          clear hm hLP
          go_loopw [9] (fun v wr => ∃ (k : Nat) (old : List Nat), 64 * k ≤ m ∧ v = .int .i64 (64 * k : Nat) ∧ old.length = 64 ∧ Blk wr pW 107 (V32 old) ∧ Blk wr pS 109 (V32 (run shaBegun Pd k).list) ∧ RBut2 pS pW V wr) (fun v _ => m - (intOf v).toNat)
          case atStart => exact ⟨0, _, by omega, rfl, rfl, b8, sSV, RBut2.refl_ _ _ _⟩
          case round =>
            clear b8 sSV hc' hc2
            obtain ⟨k, old, hk, rfl, hold, bo, bS, hr2⟩ := hrel
            obtain ⟨q0, hq⟩ : ∃ q0, q0 = 64 * k := ⟨_, rfl⟩
            rw [← hq]
            rw [← hq] at hk
            have HQ := Lib.hid hq
            by_cases hlt : q0 < m
            · have hge : q0 + 64 ≤ m := by have := HP64.out; omega
              obtain ⟨bl, hbl⟩ : ∃ bl, bl = (Pd.drop q0).take 64 := ⟨_, rfl⟩
              have hll : bl.length = 64 := by rw [hbl, List.length_take, List.length_drop, HM.out]; omega
              have hget : ∀ j, j < 64 → bl.getD j 0 = Pd.getD (q0 + j) 0 := by
                intro j hj
                rw [hbl, List.getD, List.getD, List.getElem?_take, if_pos hj, List.getElem?_drop]
              have hrun : run shaBegun Pd (k + 1) = comp (run shaBegun Pd k) bl := by rw [hbl, run, ← hq]
              have hok := run_ok Pd k
              obtain ⟨S, hS⟩ : ∃ S, S = run shaBegun Pd k := ⟨_, rfl⟩
              rw [← hS] at bS hok hrun
              have HRUN := Lib.hid hrun
              have HGET := Lib.hid hget
              have t0 : (q0 : Int) < (m : Int) := by omega
              have sR := sV.butT hr2 (by omega) (by omega)
              have kR := kV.but2 hr2 (by omega) (by omega)
              have hold' := Lib.hid hold
              clear hq hbl hll hget hrun hS hold
              have hpW : pW < wr.heap.size := bo.lt
              go_wp2_with fail
              go_loopw [10] (fun v wq => ∃ i : Nat, i ≤ 16 ∧ v = .int .i64 i ∧ Blk wq pW 107 (V32 (sched bl i ++ old.drop i)) ∧ RBut (some pW) wr wq) (fun v _ => 16 - (intOf v).toNat)
              case atStart => exact ⟨0, by omega, rfl, by simpa [sched] using bo, RBut.refl_ _ _⟩
              case round =>
                clear bo
                obtain ⟨i, hi, rfl, bi, hbi⟩ := hrel
                by_cases hlt : i < 16
                · refine refS4 _ _ _ _ _ _ _ _ _ _ _ _ _ _ _ _ _ _ _ _ _ _ _ _ _ _ _ _ _ _ _ _ _ _ _ _ _ _ _ _ _ _ _ _ _ _ _ _ _ _ _ _ _ _ _ _ _ _ _ _ _ _ _ _ _ _ _ _ _ _ _ _ _ _ _ _ _ _ _ _ _ _ _ _ _ _ _ _ _ _ _ _ _ _ _ _ _ _ _ _ _ _ _ _ _ _ _ _ _ _ _ _ _ _ _ _ _ _ _ _ _ _ _ _ _ _ _ _ _ _ _ _ _ _ _ _ _ _ _ _ _ _ _ _ _ _ _ _ _ _ _ _ _ _ _ _ _ _ _ _ _ _ _ _ _ _ _ _ _ _ _ _ _ _ _ _ _ _ _ _ _ _ _ _ _ _ _ _ _ _ _ _ _ _ _ _ _ _ _ _ _ _ _ _ _ _ _ _ _ _ _ _ _ _ _ _ _ _ _ _ _ _ _ _ _ _ _ _ _ _ _ _ _ _ _ _ _ _ _ _ _ _ _ _ _ _ _ _ _ _ _ _ _ _ _ _ _ _ _ _ _ _ _ _ _ _ _ _ _ _ _ _ _ _ g m c' pW q0 i Pd bl old _ _ (by intro d v c a w h; cases d <;> exact h) hlt HM.out hPb hge HGET hold' hgw (by have := sR.but hbi (fun h => by injection h; omega); rw [HPL.out]; exact this) bi ?_
                  intro n61 n62 n63 n64 n65 n66 n67 n68 n69 n70 n71 n72 n73 n74 n75 n76 n77 n78 n79 n80 n81 n82 n83 n84 n85 n86 n87 n88 n89 n90 n91 n92 n93 n94 n95 n96 n97 n98 n99 n11 w' hb' hr'
                  have hbj := RBut.trans_ _ _ _ _ hbi hr'
                  clear hr' bi hbi
                  go_roundw
                  case rel => first | exact ⟨i + 1, by omega, by go_num, hb', hbj⟩ | ((repeat apply Exists.intro); exact ⟨⟨i + 1, by omega, by go_num, hb', hbj⟩, rfl⟩)
                  case measure => simp [intOf]; omega
                · have t1 : ¬ (i : Int) < 16 := by omega
                  obtain rfl : i = 16 := by omega
                  go_wp2_with fail
                  go_loopw [12] (fun v wq => ∃ i : Nat, 16 ≤ i ∧ i ≤ 64 ∧ v = .int .i64 i ∧ Blk wq pW 107 (V32 (sched bl i ++ old.drop i)) ∧ RBut (some pW) wr wq) (fun v _ => 64 - (intOf v).toNat)
                  case atStart => exact ⟨16, by omega, by omega, rfl, bi, RBut.refl_ _ _⟩
                  case round =>
                    have hbx := hbi
                    clear bi hbi hi hlt t1
                    obtain ⟨i, hi16, hi, rfl, bi, hbi⟩ := hrel
                    by_cases hlt : i < 64
                    · refine refS5 _ _ _ _ _ _ _ _ _ _ _ _ _ _ _ _ _ _ _ _ _ _ _ _ _ _ _ _ _ _ _ _ _ _ _ _ _ _ _ _ _ _ _ _ _ _ _ _ _ _ _ _ _ _ _ _ _ _ _ _ _ _ _ _ _ _ _ _ _ _ _ _ _ _ _ _ _ _ _ _ _ _ _ _ _ _ _ _ _ _ _ _ _ _ _ _ _ _ _ _ _ _ _ _ _ _ _ _ _ _ _ _ _ _ _ _ _ _ _ _ _ _ _ _ _ _ _ _ _ _ _ _ _ _ _ _ _ _ _ _ _ _ _ _ _ _ _ _ _ _ _ _ _ _ _ _ _ _ _ _ _ _ _ _ _ _ _ _ _ _ _ _ _ _ _ _ _ _ _ _ _ _ _ _ _ _ _ _ _ _ _ _ _ _ _ _ _ _ _ _ _ _ _ _ _ _ _ _ _ _ _ _ _ _ _ _ _ _ _ _ _ _ _ _ _ _ _ _ _ _ _ _ _ _ _ _ _ _ _ _ _ _ _ _ _ _ _ _ _ _ _ _ _ _ _ _ _ _ _ _ _ _ _ _ _ _ _ _ _ _ _ _ _ _ _ _ pW i bl old _ _ (by intro d v c a w h; cases d <;> exact h) hi16 hlt hold' bi ?_
                      intro n100 n101 n102 n103 n104 n105 n106 n107 n108 n109 n110 n111 n112 n113 n114 n115 n116 n117 n118 n119 n120 n121 n122 n123 n124 n125 n126 n127 n128 n129 n130 n131 n132 n133 n134 n135 n136 n137 n138 n139 n140 n13 n14 w' hb' hr'
                      have hbj := RBut.trans_ _ _ _ _ hbi hr'
                      clear hr' bi hbi
                      go_roundw
                      case rel => first | exact ⟨i + 1, by omega, by omega, by go_num, hb', hbj⟩ | ((repeat apply Exists.intro); exact ⟨⟨i + 1, by omega, by omega, by go_num, hb', hbj⟩, rfl⟩)
                      case measure => simp [intOf]; omega
                    · have t1 : ¬ (i : Int) < 64 := by omega
                      obtain rfl : i = 64 := by omega
                      obtain ⟨ws, hws⟩ : ∃ ws, ws = sched bl 64 := ⟨_, rfl⟩
                      have hwl : ws.length = 64 := by rw [hws, sched_len]
                      have e64 : sched bl 64 ++ old.drop 64 = ws := by rw [hws, List.drop_eq_nil_of_le (by rw [hold'.out]; omega), List.append_nil]
                      rw [e64] at bi
                      have HWS := Lib.hid hws
                      have HWL := Lib.hid hwl
                      have r3 := (hr2.step hbx (by omega)).step hbi (by omega)
                      have bS3 := (bS.but hbx (fun h => by injection h; omega)).but hbi (fun h => by injection h; omega)
                      have kR3 := (kR.but hbx (fun h => by injection h; omega)).but hbi (fun h => by injection h; omega)
                      clear hws hwl e64 hbx hbi bS kR hr2
                      go_wp2_with (first
                        | (refine wpl_load_blk rfl _ _ rfl pS rfl 109 (V32 S.list) _ bS3 Try.underlying109 rfl (info_8 rfl) ?_)
                        | (refine wpl_store_new rfl _ _ _ rfl 109 _ (V32 S.list) rfl rfl rfl (info_8 rfl) (V32_one _) ?_; intro V7 b7 hb7))
                      have kV7 := kR3.to hb7
                      have wV7 := bi.to hb7
                      have sV7 := bS3.to hb7
                      have rV7 := r3.below hb7
                      have hpA : V.heap.size ≤ wr.heap.size := r3.2.2.2.1
                      generalize hpa : wr.heap.size = pA at *
                      have HPA := Lib.hid hpa
                      clear hpa hb7 kR3 bi bS3 r3
                      try simp only [Act.put]
                      go_loopw [16] (fun v wq => ∃ i : Nat, i ≤ 64 ∧ v = .int .i64 i ∧ Blk wq pA 109 (V32 (rnds ws S i).list) ∧ RBut (some pA) V7 wq) (fun v _ => 64 - (intOf v).toNat)
                      case atStart => exact ⟨0, by omega, rfl, b7, RBut.refl_ _ _⟩
                      case round =>
                        clear b7 hi16 hi hlt t1
                        obtain ⟨i, hi, rfl, bi, hbi⟩ := hrel
                        by_cases hlt : i < 64
                        · have t1 : (i : Int) < 64 := by omega
                          have hoki := rnds_ok ws hok i
                          have hrn : rnds ws S (i + 1) = rnd (rnds ws S i) (shaKs.getD i 0) (ws.getD i 0) := by rw [rnds]
                          rw [← HKS.out] at hrn
                          have hkk : ks.getD i 0 < 4294967296 := by rw [HKS.out]; exact shaKs_lt i
                          have hww : ws.getD i 0 < 4294967296 := by rw [HWS.out]; exact sched_lt bl 64 i
                          have gk : ks[i]? = some (ks.getD i 0) := by have := HKL.out; rw [List.getD, List.getElem?_eq_getElem (by omega)]; rfl
                          have gw : ws[i]? = some (ws.getD i 0) := by have := HWL.out; rw [List.getD, List.getElem?_eq_getElem (by omega)]; rfl
                          obtain ⟨kk, hkk'⟩ : ∃ kk, kk = ks.getD i 0 := ⟨_, rfl⟩
                          obtain ⟨x, hxx'⟩ : ∃ x, x = ws.getD i 0 := ⟨_, rfl⟩
                          rw [← hkk'] at hkk gk hrn
                          rw [← hxx'] at hww gw hrn
                          clear hkk' hxx'
                          refine refS6 _ _ _ _ _ _ _ _ _ _ _ _ _ _ _ _ _ _ _ _ _ _ _ _ _ _ _ _ _ _ _ _ _ _ _ _ _ _ _ _ _ _ _ _ _ _ _ _ _ _ _ _ _ _ _ _ _ _ _ _ _ _ _ _ _ _ _ _ _ _ _ _ _ _ _ _ _ _ _ _ _ _ _ _ _ _ _ _ _ _ _ _ _ _ _ _ _ _ _ _ _ _ _ _ _ _ _ _ _ _ _ _ _ _ _ _ _ _ _ _ _ _ _ _ _ _ _ _ _ _ _ _ _ _ _ _ _ _ _ _ _ _ _ _ _ _ _ _ _ _ _ _ _ _ _ _ _ _ _ _ _ _ _ _ _ _ _ _ _ _ _ _ _ _ _ _ _ _ _ _ _ _ _ _ _ _ _ _ _ _ _ _ _ _ _ _ _ _ _ _ _ _ _ _ _ _ _ _ _ _ _ _ _ _ _ _ _ _ _ _ _ _ _ _ _ _ _ _ _ _ _ _ _ _ _ _ _ _ _ _ _ _ _ _ _ _ _ _ _ _ _ _ _ _ _ _ _ _ _ _ _ _ _ _ _ _ _ _ _ _ _ _ _ _ pK pW pA i kk x ks ws (rnds ws S i) _ _ (by intro d v c a w h; cases d <;> exact h) hlt hoki hkk hww gk gw bi (kV7.but hbi (fun h => by injection h; omega)) (wV7.but hbi (fun h => by injection h; omega)) ?_
                          intro n142 n143 n144 n145 n146 n147 n148 n149 n150 n151 n152 n153 n154 n155 n156 n157 n158 n159 n160 n161 n162 n163 n164 n165 n166 n167 n168 n169 n170 n171 n172 n173 n174 n175 n176 n177 n178 n179 n180 n181 n182 n183 n184 n185 n186 n187 n188 n189 n190 n191 n192 n193 n194 n195 n196 n197 n198 n199 n200 n201 n202 n203 n204 n205 n206 n207 n208 n209 n210 n211 n212 n213 n214 n215 n216 n217 n218 n219 n220 n221 n222 n223 n224 n225 n226 n17 n18 n19 w' hb' hr'
                          have hbj := RBut.trans_ _ _ _ _ hbi hr'
                          rw [← hrn] at hb'
                          have HB' := Lib.hid hb'
                          clear hr' bi hbi hrn gk gw hb'
                          go_roundw
                          case rel => first | exact ⟨i + 1, by omega, by go_num, HB'.out, hbj⟩ | ((repeat apply Exists.intro); exact ⟨⟨i + 1, by omega, by go_num, HB'.out, hbj⟩, rfl⟩)
                          case measure => simp [intOf]; omega
                        · have t1 : ¬ (i : Int) < 64 := by omega
                          obtain rfl : i = 64 := by omega
                          go_wp2_with fail
                          obtain ⟨T, hT⟩ : ∃ T, T = rnds ws S 64 := ⟨_, rfl⟩
                          rw [← hT] at bi
                          have HT2 := Lib.hid hT
                          have sR6 := sV7.but hbi (fun h => by injection h; omega)
                          have wR6 := wV7.but hbi (fun h => by injection h; omega)
                          have r6 := rV7.step hbi (by omega)
                          clear hT kV7 wV7 sV7 rV7
                          go_loopw [20] (fun v wq => ∃ j : Nat, j ≤ 8 ∧ v = .int .i64 j ∧ Blk wq pS 109 (V32 (mix2 T S j)) ∧ RBut (some pS) wr wq) (fun v _ => 8 - (intOf v).toNat)
                          case atStart => exact ⟨0, by omega, rfl, sR6, RBut.refl_ _ _⟩
                          case round =>
                            clear sR6 hi hlt t1
                            obtain ⟨j, hj, rfl, bj, hbj⟩ := hrel
                            by_cases hlt : j < 8
                            · have t1 : (j : Int) < 8 := by omega
                              obtain ⟨x, y, hx, hy, hm⟩ := mix2_at T S j hlt
                              have aJ := bi.but hbj (fun h => by injection h; omega)
                              have cx : wr.drew.cell? ⟨pA, j, none⟩ = _ := (aJ.cell j).trans (V32_get hx)
                              have cy : wr.drew.cell? ⟨pS, j, none⟩ = _ := (bj.cell j).trans (V32_get hy)
                              have fx : wr.drew.frozen? ⟨pS, j, none⟩ = _ := bj.fz j
                              have bs := Blk.set_ (w := wr.drew) bj j (.int .u32 (((x + y) % 4294967296 : Nat) : Int))
                              have hbs := RBut.trans_ _ _ _ _ (RBut.trans_ _ _ _ _ hbj (RBut.of_below (Below.refl _ _).drew)) (RBut.setC wr.drew pS j (.int .u32 (((x + y) % 4294967296 : Nat) : Int)))
                              have Y2 := sum2b x y
                              have BS := Lib.hid bs
                              have HMM := Lib.hid hm
                              have HBS := Lib.hid hbs
                              clear hx hy hm bs hbs
                              have cx0 : wr.cell? ⟨pA, j, none⟩ = _ := cx
                              have cy0 : wr.cell? ⟨pS, j, none⟩ = _ := cy
                              go_wp2_with fail
                              go_still_tail 8, (by kernel_rfl)
                              clear cx0 cy0
                              change wpList _ _ _ _ _ wr.drew
                              generalize wr.drew = wd at *
                              go_wp2_with fail
                              have bs := BS.out
                              rw [HMM.out] at bs
                              go_roundw
                              case rel => exact ⟨j + 1, by omega, by go_num, bs, HBS.out⟩
                              case measure => simp [intOf]; omega
                            · have t1 : ¬ (j : Int) < 8 := by omega
                              obtain rfl : j = 8 := by omega
                              have hfin : run shaBegun Pd (k + 1) = addS T S := by rw [HRUN.out, HT2.out, HWS.out]; rfl
                              have b9 : Blk wr pS 109 (V32 (addS T S).list) := bj
                              rw [← hfin] at b9
                              have r9 := r6.step hbj (by omega)
                              have w9 := wR6.but hbj (fun h => by injection h; omega)
                              clear hfin bj r6 wR6
                              have hqk : (q0 : Int) + 64 = ((64 * (k + 1) : Nat) : Int) := by have := HQ.out; omega
                              have HQK := Lib.hid hqk
                              clear hqk
                              go_wp2_with fail
                              go_roundw
                              case rel => exact ⟨k + 1, ws, by have := HQ.out; omega, by rw [HQK.out], HWL.out, w9, b9, r9⟩
                              case measure => simp [intOf]; omega
            · have hkk : k = m / 64 := by have := HP64.out; omega
              obtain ⟨S, hS⟩ : ∃ S, S = run shaBegun Pd k := ⟨_, rfl⟩
              rw [← hS] at bS
              have hfin : shaS bs = S.bytes := by rw [hS, hkk, ← HM.out, HPd.out]; rfl
              have hok : S.ok := by rw [hS]; exact run_ok Pd k
              have t0 : ¬ (q0 : Int) < (m : Int) := by omega
              have HF := Lib.hid hfin
              clear hS hfin hkk hq
              have bH : Blk (wr.alloc (.cells #[.int .u8 0, .int .u8 0, .int .u8 0, .int .u8 0, .int .u8 0, .int .u8 0, .int .u8 0, .int .u8 0, .int .u8 0, .int .u8 0, .int .u8 0, .int .u8 0, .int .u8 0, .int .u8 0, .int .u8 0, .int .u8 0, .int .u8 0, .int .u8 0, .int .u8 0, .int .u8 0, .int .u8 0, .int .u8 0, .int .u8 0, .int .u8 0, .int .u8 0, .int .u8 0, .int .u8 0, .int .u8 0, .int .u8 0, .int .u8 0, .int .u8 0, .int .u8 0] 25)) wr.heap.size 25 (B8 (List.replicate 32 0)) := Blk.new wr _ _
              have hbH : Below wr.heap.size wr (wr.alloc (.cells #[.int .u8 0, .int .u8 0, .int .u8 0, .int .u8 0, .int .u8 0, .int .u8 0, .int .u8 0, .int .u8 0, .int .u8 0, .int .u8 0, .int .u8 0, .int .u8 0, .int .u8 0, .int .u8 0, .int .u8 0, .int .u8 0, .int .u8 0, .int .u8 0, .int .u8 0, .int .u8 0, .int .u8 0, .int .u8 0, .int .u8 0, .int .u8 0, .int .u8 0, .int .u8 0, .int .u8 0, .int .u8 0, .int .u8 0, .int .u8 0, .int .u8 0, .int .u8 0] 25)) := (Below.refl _ _).alloc (Nat.le_refl _) _
              go_wp2_with fail
              generalize wr.alloc (.cells #[.int .u8 0, .int .u8 0, .int .u8 0, .int .u8 0, .int .u8 0, .int .u8 0, .int .u8 0, .int .u8 0, .int .u8 0, .int .u8 0, .int .u8 0, .int .u8 0, .int .u8 0, .int .u8 0, .int .u8 0, .int .u8 0, .int .u8 0, .int .u8 0, .int .u8 0, .int .u8 0, .int .u8 0, .int .u8 0, .int .u8 0, .int .u8 0, .int .u8 0, .int .u8 0, .int .u8 0, .int .u8 0, .int .u8 0, .int .u8 0, .int .u8 0, .int .u8 0] 25) = VH at *
              have bSH := bS.to hbH
              have r9 := hr2.below hbH
              have hpH : V.heap.size ≤ wr.heap.size := hr2.2.2.2.1
              generalize hph : wr.heap.size = pH at *
              have HPH := Lib.hid hph
              clear hph hbH bS hr2 bo
              go_loopw [22] (fun v wq => ∃ i : Nat, i ≤ 8 ∧ v = .int .i64 i ∧ Blk wq pH 25 (B8 (S.bytes.take (4 * i) ++ List.replicate (32 - 4 * i) 0)) ∧ RBut (some pH) VH wq) (fun v _ => 8 - (intOf v).toNat)
              case atStart => exact ⟨0, by omega, rfl, by simpa using bH, RBut.refl_ _ _⟩
              case round =>
                clear bH
                obtain ⟨i, hi, rfl, bi, hbi⟩ := hrel
                by_cases hlt : i < 8
                · have t1 : (i : Int) < 8 := by omega
                  have b4 := S.bytes4 i hlt
                  have hw : S.list[i]? = some (S.list.getD i 0) := by
                    have : i < S.list.length := by simp [S8.list]; omega
                    rw [List.getD, List.getElem?_eq_getElem this]; rfl
                  generalize S.list.getD i 0 = x at *
                  have bSi := bSH.but hbi (fun h => by injection h; omega)
                  have cx : ∀ w', RBut (some pH) wr.drew w' → w'.cell? ⟨pS, i, none⟩ = some (.int .u32 (x : Int)) := fun w' hw' => (((Blk.but (w := wr.drew) bSi hw' (fun h => by injection h; omega)).cell i).trans (V32_get hw))
                  obtain ⟨z0, hz0⟩ : ∃ z, z = UInt8.ofNat (x / 16777216) := ⟨_, rfl⟩
                  obtain ⟨z1, hz1⟩ : ∃ z, z = UInt8.ofNat (x / 65536) := ⟨_, rfl⟩
                  obtain ⟨z2, hz2⟩ : ∃ z, z = UInt8.ofNat (x / 256) := ⟨_, rfl⟩
                  obtain ⟨z3, hz3⟩ : ∃ z, z = UInt8.ofNat x := ⟨_, rfl⟩
                  have y0 : IntKind.u8.wrap ((x : Int) / 16777216) = (z0.toNat : Int) := by rw [hz0, u8_ofNat, IntKind.wrap_u8']; omega
                  have y1 : IntKind.u8.wrap ((x : Int) / 65536) = (z1.toNat : Int) := by rw [hz1, u8_ofNat, IntKind.wrap_u8']; omega
                  have y2 : IntKind.u8.wrap ((x : Int) / 256) = (z2.toNat : Int) := by rw [hz2, u8_ofNat, IntKind.wrap_u8']; omega
                  have y3 : IntKind.u8.wrap (x : Int) = (z3.toNat : Int) := by rw [hz3, u8_ofNat, IntKind.wrap_u8']
                  have hbe : be4 x = [z0, z1, z2, z3] := by rw [hz0, hz1, hz2, hz3]; rfl
                  rw [hbe] at b4
                  have B4 := Lib.hid b4
                  obtain ⟨r0, hr0⟩ : ∃ r, r = 4 * i := ⟨_, rfl⟩
                  obtain ⟨r1, hr1⟩ : ∃ r, r = 4 * i + 1 := ⟨_, rfl⟩
                  obtain ⟨r2, hr2⟩ : ∃ r, r = 4 * i + 2 := ⟨_, rfl⟩
                  obtain ⟨r3, hr3⟩ : ∃ r, r = 4 * i + 3 := ⟨_, rfl⟩
                  have l0 : (r0 : Int) < 32 := by omega
                  have l1 : (r1 : Int) < 32 := by omega
                  have l2 : (r2 : Int) < 32 := by omega
                  have l3 : (r3 : Int) < 32 := by omega
                  have v0 : IntKind.i64.wrap (4 * (i : Int)) = (r0 : Int) := by rw [IntWalk.i64_in _ (by omega)]; omega
                  have v1 : IntKind.i64.wrap ((r0 : Int) + 1) = (r1 : Int) := by rw [IntWalk.i64_in _ (by omega)]; omega
                  have v2 : IntKind.i64.wrap ((r0 : Int) + 2) = (r2 : Int) := by rw [IntWalk.i64_in _ (by omega)]; omega
                  have v3 : IntKind.i64.wrap ((r0 : Int) + 3) = (r3 : Int) := by rw [IntWalk.i64_in _ (by omega)]; omega
                  obtain ⟨cs, hcs⟩ : ∃ cs, cs = B8 (S.bytes.take (4 * i) ++ List.replicate (32 - 4 * i) 0) := ⟨_, rfl⟩
                  have hl : cs.length = 32 := by rw [hcs, B8_len, List.length_append, List.length_take, S8.bytes_len, List.length_replicate]; omega
                  have hset : (((cs.set r0 (.int .u8 (z0.toNat : Int))).set r1 (.int .u8 (z1.toNat : Int))).set r2 (.int .u8 (z2.toNat : Int))).set r3 (.int .u8 (z3.toNat : Int)) = B8 (S.bytes.take (4 * (i + 1)) ++ List.replicate (32 - 4 * (i + 1)) 0) := by
                    rw [hcs, hr0, hr1, hr2, hr3]
                    exact fill4 _ _ _ z0 z1 z2 z3 (by rw [List.length_take, S8.bytes_len]; omega) (by omega) B4.out
                  rw [← hcs] at bi
                  have be0 : Blk wr.drew pH 25 cs := bi
                  have hbi' := RBut.trans_ _ _ _ _ hbi (RBut.of_below (Below.refl _ _).drew)
                  have HSET := Lib.hid hset
                  have HR := Lib.hid (And.intro hr0 (And.intro hr1 (And.intro hr2 hr3)))
                  clear b4 hw hz0 hz1 hz2 hz3 hbe hcs hset bi hbi hr0 hr1 hr2 hr3
                  go_wp2_with fail
                  refine wp_region_C [(0, true), (1, true), (2, true), (3, true), (4, true), (5, true), (6, true), (7, true), (8, true), (9, true), (10, true), (11, true), (12, true), (13, true), (14, true), (15, true), (16, true), (17, true), (18, true), (19, true), (20, true), (21, true), (22, true), (23, true), (24, true), (25, true), (26, true), (27, true), (28, true), (29, true), (30, false), (31, false), (32, false), (33, false), (34, false), (35, false), (36, false), (37, false)] (RBut (some pH)) (by kernel_rfl) (by kernel_rfl) (by kernel_rfl) (by decide) (RBut.refl_ _) (RBut.trans_ _) (by intro d v c a w h; cases d <;> exact h) ?_
                  generalize wr.drew = we at *
                  have cx0 := cx we (RBut.refl_ _ _)
                  repeat (first | (refine wpC_quiet (v := ?_) rfl (by rfl) ?_ ?_; rotate_left; (· (intro w' hw'; go_simp; try with_reducible rfl)); simp only [Act.put, List.setIfInBounds_toArray, List.set_cons_zero, List.set_cons_succ]) | (refine wpC_val (v := ?_) (RBut.refl_ _) rfl (by rfl) ?_ ?_; rotate_left; (· (go_simp; try with_reducible rfl)); simp only [Act.put, List.setIfInBounds_toArray, List.set_cons_zero, List.set_cons_succ]) | (refine wpC_skip rfl (by rfl) ?_; simp only [Act.put, List.setIfInBounds_toArray, List.set_cons_zero, List.set_cons_succ]) | (refine wpC_skip' (RBut.refl_ _) rfl (by rfl) ?_; simp only [Act.put, List.setIfInBounds_toArray, List.set_cons_zero, List.set_cons_succ]))
                  have ce := be0.cell r0
                  rw [List.getElem?_eq_getElem (by rw [hl]; omega)] at ce
                  have fe := be0.fz r0
                  have hst0 := RBut.setC we pH r0 (.int .u8 (z0.toNat : Int))
                  have be1 := be0.set_ r0 (.int .u8 (z0.toNat : Int))
                  generalize (cs)[r0]'_ = zz at ce
                  (refine wpC_loud rfl (by rfl) ?_; intro K hK; go_simp)
                  (refine hK.out _ _ (RBut.setC _ _ _ _) ?_; clear hK K; try simp only [Act.put, List.setIfInBounds_toArray, List.set_cons_zero, List.set_cons_succ])
                  clear ce fe zz
                  generalize we.setCell _ _ = wf0 at *
                  generalize hcs1 : (cs).set r0 _ = cs1 at *
                  have hl1 : cs1.length = 32 := by rw [← hcs1, List.length_set, hl]
                  repeat (first | (refine wpC_quiet (v := ?_) rfl (by rfl) ?_ ?_; rotate_left; (· (intro w' hw'; go_simp; try with_reducible rfl)); simp only [Act.put, List.setIfInBounds_toArray, List.set_cons_zero, List.set_cons_succ]) | (refine wpC_val (v := ?_) (RBut.refl_ _) rfl (by rfl) ?_ ?_; rotate_left; (· (go_simp; try with_reducible rfl)); simp only [Act.put, List.setIfInBounds_toArray, List.set_cons_zero, List.set_cons_succ]) | (refine wpC_skip rfl (by rfl) ?_; simp only [Act.put, List.setIfInBounds_toArray, List.set_cons_zero, List.set_cons_succ]) | (refine wpC_skip' (RBut.refl_ _) rfl (by rfl) ?_; simp only [Act.put, List.setIfInBounds_toArray, List.set_cons_zero, List.set_cons_succ]))
                  have ce := be1.cell r1
                  rw [List.getElem?_eq_getElem (by rw [hl1]; omega)] at ce
                  have fe := be1.fz r1
                  have hst1 := RBut.setC wf0 pH r1 (.int .u8 (z1.toNat : Int))
                  have be2 := be1.set_ r1 (.int .u8 (z1.toNat : Int))
                  generalize (cs1)[r1]'_ = zz at ce
                  (refine wpC_loud rfl (by rfl) ?_; intro K hK; go_simp)
                  (refine hK.out _ _ (RBut.setC _ _ _ _) ?_; clear hK K; try simp only [Act.put, List.setIfInBounds_toArray, List.set_cons_zero, List.set_cons_succ])
                  clear ce fe zz
                  generalize wf0.setCell _ _ = wf1 at *
                  generalize hcs2 : (cs1).set r1 _ = cs2 at *
                  have hl2 : cs2.length = 32 := by rw [← hcs2, List.length_set, hl1]
                  repeat (first | (refine wpC_quiet (v := ?_) rfl (by rfl) ?_ ?_; rotate_left; (· (intro w' hw'; go_simp; try with_reducible rfl)); simp only [Act.put, List.setIfInBounds_toArray, List.set_cons_zero, List.set_cons_succ]) | (refine wpC_val (v := ?_) (RBut.refl_ _) rfl (by rfl) ?_ ?_; rotate_left; (· (go_simp; try with_reducible rfl)); simp only [Act.put, List.setIfInBounds_toArray, List.set_cons_zero, List.set_cons_succ]) | (refine wpC_skip rfl (by rfl) ?_; simp only [Act.put, List.setIfInBounds_toArray, List.set_cons_zero, List.set_cons_succ]) | (refine wpC_skip' (RBut.refl_ _) rfl (by rfl) ?_; simp only [Act.put, List.setIfInBounds_toArray, List.set_cons_zero, List.set_cons_succ]))
                  have ce := be2.cell r2
                  rw [List.getElem?_eq_getElem (by rw [hl2]; omega)] at ce
                  have fe := be2.fz r2
                  have hst2 := RBut.setC wf1 pH r2 (.int .u8 (z2.toNat : Int))
                  have be3 := be2.set_ r2 (.int .u8 (z2.toNat : Int))
                  generalize (cs2)[r2]'_ = zz at ce
                  (refine wpC_loud rfl (by rfl) ?_; intro K hK; go_simp)
                  (refine hK.out _ _ (RBut.setC _ _ _ _) ?_; clear hK K; try simp only [Act.put, List.setIfInBounds_toArray, List.set_cons_zero, List.set_cons_succ])
                  clear ce fe zz
                  generalize wf1.setCell _ _ = wf2 at *
                  generalize hcs3 : (cs2).set r2 _ = cs3 at *
                  have hl3 : cs3.length = 32 := by rw [← hcs3, List.length_set, hl2]
                  repeat (first | (refine wpC_quiet (v := ?_) rfl (by rfl) ?_ ?_; rotate_left; (· (intro w' hw'; go_simp; try with_reducible rfl)); simp only [Act.put, List.setIfInBounds_toArray, List.set_cons_zero, List.set_cons_succ]) | (refine wpC_val (v := ?_) (RBut.refl_ _) rfl (by rfl) ?_ ?_; rotate_left; (· (go_simp; try with_reducible rfl)); simp only [Act.put, List.setIfInBounds_toArray, List.set_cons_zero, List.set_cons_succ]) | (refine wpC_skip rfl (by rfl) ?_; simp only [Act.put, List.setIfInBounds_toArray, List.set_cons_zero, List.set_cons_succ]) | (refine wpC_skip' (RBut.refl_ _) rfl (by rfl) ?_; simp only [Act.put, List.setIfInBounds_toArray, List.set_cons_zero, List.set_cons_succ]))
                  have ce := be3.cell r3
                  rw [List.getElem?_eq_getElem (by rw [hl3]; omega)] at ce
                  have fe := be3.fz r3
                  have hst3 := RBut.setC wf2 pH r3 (.int .u8 (z3.toNat : Int))
                  have be4 := be3.set_ r3 (.int .u8 (z3.toNat : Int))
                  generalize (cs3)[r3]'_ = zz at ce
                  (refine wpC_loud rfl (by rfl) ?_; intro K hK; go_simp)
                  (refine hK.out _ _ (RBut.setC _ _ _ _) ?_; clear hK K; try simp only [Act.put, List.setIfInBounds_toArray, List.set_cons_zero, List.set_cons_succ])
                  clear ce fe zz
                  generalize wf2.setCell _ _ = wf3 at *
                  generalize hcs4 : (cs3).set r3 _ = cs4 at *
                  have hl4 : cs4.length = 32 := by rw [← hcs4, List.length_set, hl3]
                  refine wpC_nil ?_
                  have be4' := be4
                  rw [HSET.out] at be4'
                  have hbf := RBut.trans_ _ _ _ _ (RBut.trans_ _ _ _ _ (RBut.trans_ _ _ _ _ (RBut.trans_ _ _ _ _ hbi' hst0) hst1) hst2) hst3
                  clear cx cx0 y0 y1 y2 y3 v0 v1 v2 v3 hcs1 hcs2 hcs3 hcs4 hl hl1 hl2 hl3 hl4 be0 be1 be2 be3 be4 hst0 hst1 hst2 hst3
                  go_wp2_with fail
                  go_roundw
                  case rel => exact ⟨i + 1, by omega, by go_num, be4', hbf⟩
                  case measure => simp [intOf]; omega
                · have t1 : ¬ (i : Int) < 8 := by omega
                  obtain rfl : i = 8 := by omega
                  have e32 : S.bytes.take (4 * 8) ++ List.replicate (32 - 4 * 8) 0 = S.bytes := by rw [List.take_of_length_le (by rw [S8.bytes_len]; omega)]; simp
                  rw [e32] at bi
                  clear e32
                  have hV : Below W.heap.size W VH := (hbW3.trans (hbV.mono hW3')).trans (r9.bel (by omega) (by omega) (by omega))
                  have hVs := hV.size
                  have b2V := (b2.to hV).but hbi (fun h => by injection h; omega)
                  have hbl : S.bytes.length = 32 := S8.bytes_len S
                  generalize S.bytes = sb at *
                  have HBL := Lib.hid hbl
                  clear hbl
                  go_wp2_with (first
                    | (refine wpl_load_blk rfl _ _ rfl pH rfl 25 (B8 sb) _ bi Try.underlying25 rfl (by rw [B8_len, HBL.out]; kernel_rfl) ?_)
                    | (refine wpl_store_blk rfl _ _ _ rfl N 25 (B8 (List.replicate 32 0)) (B8 sb) rfl rfl b2V (by rw [B8_len, B8_len, HBL.out]; rfl) (by rw [B8_len, HBL.out]; kernel_rfl) (B8_one _) ?_; intro w9 b9 hb9))
                  rw [HF.out]
                  exact bodyPost_ret (v := hv sb) (results_blk Try.results40 rfl b9 Try.underlying25 rfl (by rw [B8_len, HBL.out]; kernel_rfl)) rfl ⟨rfl, by
                    rw [HN.out]
                    have e0 : Below N w VH := hb0.trans (hV.mono (Nat.le_of_lt hNW))
                    have e1 := below_but hbi (show N ≤ pH by omega) (show N ≤ VH.heap.size by omega)
                    have e2 := below_but hb9 (Nat.le_refl N) (Nat.le_trans (show N ≤ VH.heap.size by omega) e1.size)
                    exact e0.trans (e1.trans e2)⟩
end Go.Proofs.Ytdopgooglicaiaa
/- Walks: slices.Grow from nothing, slices.Concat at bytes. -/
set_option linter.unusedSimpArgs false
set_option linter.unusedVariables false
namespace Go.Proofs.Ytdopgooglicaiaa
open Go.RowKit
set_option maxRecDepth 100000

theorem info_u8 : (Try.prog.info? 5).map (fun i => (i.zero, i.size, i.bytes)) = some (some (.int .u8 0), 1, 1) := by kernel_rfl

theorem grow_B (n : Nat) (w : World) (hn : n ≤ 140737488355328) :
    Calls Try.prog 89 #[.slice none 0 0, .int .i64 n] w (RSl w 5 1 []) := by
  obtain ⟨i0, hi0, hz0, hz1, hz2⟩ := info_parts info_u8
  have hb : n * i0.bytes ≤ 281474976710656 := by rw [hz2]; omega
  have hs : 0 < i0.size := by rw [hz1]; decide
  by_cases h0 : n = 0
  · subst h0
    clear hb hs
    go_enter Try.func89, Try.ntmps89
    go_wp2
    go_ret
    exact RSl.mk Own.nil_ (Below.refl _ _)
  · have t1 : (0 : Int) < n := by omega
    have t2 : ¬ (n : Int) < 0 := by omega
    have hcap := grownCap_ge w n 0 5
    have hcap2 := grownCap_le_maxLen w n 0 5 (by simp only [maxLen]; omega)
    have HI := Lib.hid hi0
    have HZ := Lib.hid hz0
    have HZ1 := Lib.hid hz1
    clear hi0 hz0 hz1 hz2
    go_enter Try.func89, Try.ntmps89
    go_wp2_with (first
      | (at_builtin
         refine Lib.wpList_append_run _ rfl _ _ _ _ rfl _ _ rfl rfl _ _ (Lib.run_append_nil_zeros w _ _ _ _ i0 _ _ _ Try.underlying82 Try.underlying3 HI.out HZ.out n (by omega) hs (by omega) hb) ?_))
    go_ret
    refine RSl.mk (Own.drew (World.ownsRow_made w _ _ (Nat.le_refl _) hcap2 (by simp [size_zeroCells]; omega))) ?_
    exact ((Below.refl _ _).alloc (Nat.le_refl _) _).drew

/-- the bytes of some slices, one behind the other -/
def flat (L : List (Option Addr × Nat × Nat × List UInt8)) : List UInt8 := L.flatMap (·.2.2.2)
theorem flat_snoc (L : List (Option Addr × Nat × Nat × List UInt8)) (k : Nat) (h : k < L.length) : flat (L.take (k + 1)) = flat (L.take k) ++ L[k].2.2.2 := by
  unfold flat
  rw [List.take_succ_eq_append_getElem h, List.flatMap_append]
  simp only [List.flatMap_cons, List.flatMap_nil, List.append_nil]
theorem flat_le (L : List (Option Addr × Nat × Nat × List UInt8)) (k : Nat) : (flat (L.take k)).length ≤ (flat L).length := by
  unfold flat
  conv => rhs; rw [← List.take_append_drop k L, List.flatMap_append, List.length_append]
  omega
set_option maxHeartbeats 400000 in
theorem concat_B (L : List (Option Addr × Nat × Nat × List UInt8)) (b : Nat) (w : World) (hc : ∀ (k : Nat) (x : Option Addr × Nat × Nat × List UInt8), L[k]? = some x → w.cell? ⟨b, k, none⟩ = some (.slice x.1 x.2.1 x.2.2.1) ∧ Sl w 1 x.1 x.2.1 (B8 x.2.2.2))
    (hL : 0 < L.length) (hl : L.length ≤ 1000000) (ht : (flat L).length ≤ 1099511627776) :
    Calls Try.prog 84 #[.slice (some ⟨b, 0, none⟩) L.length L.length] w (RSl w 5 1 (B8 (flat L))) := by
  have hbw : b < w.heap.size := World.block_lt_of_cell? w ⟨b, 0, none⟩ (hc 0 _ (List.getElem?_eq_getElem hL)).1
  have HC := Lib.hid hc
  clear hc
  go_enter Try.func84, Try.ntmps84
  go_wp2_with fail
  go_loop [3, 11] (fun s i => ∃ k : Nat, k ≤ L.length ∧ i = .int .i64 k ∧ s = .int .i64 (flat (L.take k)).length) (fun _ i => L.length - (intOf i).toNat)
  case atStart => exact ⟨0, Nat.zero_le _, rfl, rfl⟩
  case round =>
    obtain ⟨k, hk, rfl, rfl⟩ := hrel
    by_cases hlt : k < L.length
    · have t1 : (k : Int) < L.length := by omega
      obtain ⟨hcell, hsl⟩ := HC.out k _ (List.getElem?_eq_getElem hlt)
      have hsn := flat_snoc L k hlt
      have hfl := flat_le L (k + 1)
      have hl8 := hsl.len8
      have hfl2 : (flat (L.take k)).length + L[k].2.1 ≤ 1099511627776 := by rw [hsn, List.length_append, ← hl8] at hfl; omega
      have HN : Hid (((flat (L.take (k + 1))).length : Int) = ((flat (L.take k)).length : Int) + (L[k].2.1 : Int)) := by show _ = _; rw [hsn, List.length_append, ← hl8]; omega
      generalize L[k].2.1 = m at *
      generalize L[k].1 = A at *
      generalize L[k].2.2.1 = c at *
      generalize (flat (L.take k)).length = q at *
      have t2 : ¬ (q : Int) + (m : Int) < 0 := by omega
      clear hsn hfl hl8 hsl
      go_wp2
      go_round
      case rel => exact ⟨k + 1, by omega, by go_num, by rw [HN.out]⟩
      case measure => simp [intOf]; omega
    · have hkl : k = L.length := by omega
      have t1 : ¬ (k : Int) < L.length := by omega
      have e0 : (flat (L.take k)).length = (flat L).length := by rw [List.take_of_length_le (by omega)]
      rw [e0]
      clear e0 hkl
      go_wp2_with fail
      refine (grow_B _ w (by omega)).mono ?_
      rintro e w1 ⟨A1, n1, c1, rfl, ho1, hb1⟩
      obtain rfl : n1 = 0 := by have := ho1.len; simp at this; omega
      go_wp2_with fail
      go_loopw [6, 27] (fun s i wr => ∃ (A' : Option Addr) (n' c' : Nat) (k : Nat), k ≤ L.length ∧ i = .int .i64 k ∧ s = .slice A' n' c' ∧ Own wr w.heap.size 5 1 A' n' c' (B8 (flat (L.take k))) ∧ Below w.heap.size w wr) (fun _ i _ => L.length - (intOf i).toNat)
      case atStart => exact ⟨A1, 0, c1, 0, Nat.zero_le _, rfl, rfl, ho1, hb1⟩
      case round =>
        obtain ⟨A', n', c', j, hj, rfl, rfl, ho, hb⟩ := hrel
        have hsz := hb.size
        by_cases hlt : j < L.length
        · have t1 : (j : Int) < L.length := by omega
          obtain ⟨hcell0, hsl0⟩ := HC.out j _ (List.getElem?_eq_getElem hlt)
          have hsl := hsl0.to hb
          have hcell := (hb.cell (p := ⟨b, j, none⟩) hbw).trans hcell0
          have hsn := flat_snoc L j hlt
          have hfl := flat_le L (j + 1)
          have hl8 := hsl.len8
          have hn8 := ho.len8
          have hfl2 : n' + L[j].2.1 ≤ 1099511627776 := by rw [hsn, List.length_append, ← hl8, ← hn8] at hfl; omega
          have HN := Lib.hid hsn
          generalize L[j].2.1 = m at *
          generalize L[j].1 = A at *
          generalize L[j].2.2.1 = c at *
          clear hsn hfl hl8 hn8 hcell0 hsl0
          go_wp2_with (first
            | (at_builtin
               refine wpl_app _ _ _ _ elB rfl rfl rfl ho rfl hsl (B8_one _) (by omega) (by omega) hsz ?_
               intro A2 c2 w2 g))
          have ho2 := g.own
          rw [← B8_app, ← HN.out] at ho2
          have hb2 := hb.trans (g.below ho hsz)
          go_roundw
          case rel => exact ⟨A2, _, c2, j + 1, by omega, by go_num, rfl, ho2, hb2⟩
          case measure => simp [intOf]; omega
        · have t1 : ¬ (j : Int) < L.length := by omega
          go_wp2
          go_ret
          rw [List.take_of_length_le (by omega)] at ho
          exact RSl.mk ho hb

/-- two slices -/
theorem concat2_B (A1 A2 : Option Addr) (n1 n2 c1 c2 : Nat) (b1 b2 : List UInt8) (t : TypeId) (fr : Nat × Nat) (w : World) (h1 : Sl w 1 A1 n1 (B8 b1)) (h2 : Sl w 1 A2 n2 (B8 b2)) (hl : n1 + n2 ≤ 1099511627776) (N : Nat) (hN : N = w.heap.size) :
    Calls Try.prog 84 #[.slice (some ⟨N, 0, none⟩) 2 2] (w.alloc (.cells #[.slice A1 n1 c1, .slice A2 n2 c2] t fr)) fun e w' =>
      ∃ A n c, e = .returned (.slice A n c) ∧ Own w' w.heap.size 5 1 A n c (B8 (b1 ++ b2)) ∧ Below w.heap.size w w' := by
  subst hN
  have e1 := h1.len8
  have e2 := h2.len8
  refine (concat_B [(A1, n1, c1, b1), (A2, n2, c2, b2)] w.heap.size _ ?_ (by simp) (by simp) (by simp [flat]; omega)).mono ?_
  · intro k x hx
    match k, hx with
    | 0, hx =>
      simp only [List.getElem?_cons_zero, Option.some.injEq] at hx
      subst hx
      exact ⟨by rw [cell_of_row _ w.heap.size 0 _ t fr (heap_alloc_new w _)]; rfl, h1.alloc _⟩
    | 1, hx =>
      simp only [List.getElem?_cons_succ, List.getElem?_cons_zero, Option.some.injEq] at hx
      subst hx
      exact ⟨by rw [cell_of_row _ w.heap.size 1 _ t fr (heap_alloc_new w _)]; rfl, h2.alloc _⟩
    | k + 2, hx => simp at hx
  · rintro e w' ⟨A, n, c, rfl, ho, hb⟩
    refine ⟨A, n, c, rfl, (by simpa [flat] using ho.mono (B' := w.heap.size) (by simp)), ?_⟩
    exact ((Below.refl _ _).alloc (Nat.le_refl _) _).trans (hb.mono (by simp))

end Go.Proofs.Ytdopgooglicaiaa
/- Walks: sha.Hex, capstanref2.Hex. -/
set_option linter.unusedSimpArgs false
set_option linter.unusedVariables false
namespace Go.Proofs.Ytdopgooglicaiaa
open Go.RowKit
set_option maxRecDepth 100000
theorem run_index_b {P : Program} {t e : TypeId} {n : Nat} {i0 : TypeInfo} (ht : P.underlying t = some (.array n e)) (he : P.underlying e = some (.int .u8)) (hi : P.info? e = some i0) (hs : i0.size = 1) (l : List UInt8) (k : Nat) (hk : k < n) (y : UInt8) (hy : l[k]? = some y) (w : World) :
    (Instr.index t (.agg (B8 l).toArray) (.int .i64 (k : Int))).run P w = .ok (.int .u8 (y.toNat : Int)) w := by
  have hp : P.plainKey e = true := by unfold Program.plainKey; rw [he]
  have pa := run_part_plain (P := P) w hp (xs := (B8 l).toArray) (off := k) (v := .int .u8 (y.toNat : Int)) (by simp [B8, b8, hy])
  have hlt : (0 : Int) ≤ (k : Int) ∧ (k : Int) < (n : Int) := by omega
  simp [Instr.index, run_underlying ht, asIntOf, sizeOf, typeInfo, hi, hs, hk, pa]
theorem dig_at (d : Nat) (h : d < 16) : ((⟨#[48, 49, 50, 51, 52, 53, 54, 55, 56, 57, 97, 98, 99, 100, 101, 102]⟩ : ByteArray)[d]'h) = dig d := by
  match d, h with
  | 0, _ => rfl
  | 1, _ => rfl
  | 2, _ => rfl
  | 3, _ => rfl
  | 4, _ => rfl
  | 5, _ => rfl
  | 6, _ => rfl
  | 7, _ => rfl
  | 8, _ => rfl
  | 9, _ => rfl
  | 10, _ => rfl
  | 11, _ => rfl
  | 12, _ => rfl
  | 13, _ => rfl
  | 14, _ => rfl
  | 15, _ => rfl
  | n + 16, h => exact absurd h (by omega)
theorem digit_at {P : Program} {t : TypeId} (ht : P.underlying t = some .string) (d : Nat) (h : d < 16) (w : World) :
    (Instr.index t (.string ⟨#[48, 49, 50, 51, 52, 53, 54, 55, 56, 57, 97, 98, 99, 100, 101, 102]⟩) (.int .u8 (d : Int))).run P w = .ok (.int .u8 ((dig d).toNat : Int)) w := by
  rw [run_index_string w t _ .u8 (d : Int) ht, dif_pos ⟨by omega, by show (d : Int) < 16; omega⟩]
  simp only [Int.toNat_natCast]
  rw [dig_at d h]
theorem hexS_snoc (h : List UInt8) (k : Nat) (y : UInt8) (hy : h[k]? = some y) : hexS (h.take (k + 1)) = hexS (h.take k) ++ [dig (y.toNat / 16), dig (y.toNat % 16)] := by
  rw [List.take_add_one, hy, hexS, List.flatMap_append]
  rfl
end Go.Proofs.Ytdopgooglicaiaa
/- Plain law: the sum of "abc". -/
set_option linter.unusedSimpArgs false
set_option linter.unusedVariables false
namespace Go.Proofs.Ytdopgooglicaiaa
theorem sha_abc : (hexS (shaS [97, 98, 99])).take 8 = [98, 97, 55, 56, 49, 54, 98, 102] := by decide +kernel
theorem hexS_len (h : List UInt8) : (hexS h).length = 2 * h.length := by
  induction h with
  | nil => rfl
  | cons a l ih => rw [hexS, List.flatMap_cons, List.length_append]; rw [hexS] at ih; rw [ih]; simp; omega
end Go.Proofs.Ytdopgooglicaiaa
/- Walks: sha.Two, capstanlaw2.known. -/
set_option linter.unusedSimpArgs false
set_option linter.unusedVariables false
namespace Go.Proofs.Ytdopgooglicaiaa
open Go.RowKit
set_option maxRecDepth 100000
/-- three slices -/
theorem concat3_B (A1 A2 A3 : Option Addr) (n1 n2 n3 c1 c2 c3 : Nat) (b1 b2 b3 : List UInt8) (t : TypeId) (fr : Nat × Nat) (w : World) (h1 : Sl w 1 A1 n1 (B8 b1)) (h2 : Sl w 1 A2 n2 (B8 b2)) (h3 : Sl w 1 A3 n3 (B8 b3)) (hl : n1 + n2 + n3 ≤ 1099511627776) (N : Nat) (hN : N = w.heap.size) :
    Calls Try.prog 84 #[.slice (some ⟨N, 0, none⟩) 3 3] (w.alloc (.cells #[.slice A1 n1 c1, .slice A2 n2 c2, .slice A3 n3 c3] t fr)) fun e w' =>
      ∃ A n c, e = .returned (.slice A n c) ∧ Own w' w.heap.size 5 1 A n c (B8 (b1 ++ b2 ++ b3)) ∧ Below (w.heap.size + 1) (w.alloc (.cells #[.slice A1 n1 c1, .slice A2 n2 c2, .slice A3 n3 c3] t fr)) w' := by
  subst hN
  have e1 := h1.len8
  have e2 := h2.len8
  have e3 := h3.len8
  refine (concat_B [(A1, n1, c1, b1), (A2, n2, c2, b2), (A3, n3, c3, b3)] w.heap.size _ ?_ (by simp) (by simp) (by simp [flat]; omega)).mono ?_
  · intro k x hx
    match k, hx with
    | 0, hx =>
      simp only [List.getElem?_cons_zero, Option.some.injEq] at hx
      subst hx
      exact ⟨by rw [cell_of_row _ w.heap.size 0 _ t fr (heap_alloc_new w _)]; rfl, h1.alloc _⟩
    | 1, hx =>
      simp only [List.getElem?_cons_succ, List.getElem?_cons_zero, Option.some.injEq] at hx
      subst hx
      exact ⟨by rw [cell_of_row _ w.heap.size 1 _ t fr (heap_alloc_new w _)]; rfl, h2.alloc _⟩
    | 2, hx =>
      simp only [List.getElem?_cons_succ, List.getElem?_cons_zero, Option.some.injEq] at hx
      subst hx
      exact ⟨by rw [cell_of_row _ w.heap.size 2 _ t fr (heap_alloc_new w _)]; rfl, h3.alloc _⟩
    | k + 3, hx => simp at hx
  · rintro e w' ⟨A, n, c, rfl, ho, hb⟩
    refine ⟨A, n, c, rfl, (by simpa [flat] using ho.mono (B' := w.heap.size) (by simp)), ?_⟩
    exact hb.mono (by simp)
set_option maxHeartbeats 1000000 in
theorem two_any (a b : List UInt8) (ha : a.length = 32) (hb : b.length = 32) (w : World) :
    Calls Try.prog 75 #[hv a, hv b] w fun e w' => e = .returned (hv (twoS a b)) ∧ Below w.heap.size w w' := by
  unfold hv
  obtain ⟨W, hW⟩ : ∃ W, W = ((w.alloc (.cells (B8 a).toArray 25)).alloc (.cells (B8 b).toArray 25)).alloc (.cells #[.int .u8 0, .int .u8 0, .int .u8 0, .int .u8 0, .int .u8 0, .int .u8 0, .int .u8 0, .int .u8 0, .int .u8 0, .int .u8 0, .int .u8 0, .int .u8 0, .int .u8 0, .int .u8 0, .int .u8 0, .int .u8 0, .int .u8 0, .int .u8 0, .int .u8 0, .int .u8 0, .int .u8 0, .int .u8 0, .int .u8 0, .int .u8 0, .int .u8 0, .int .u8 0, .int .u8 0, .int .u8 0, .int .u8 0, .int .u8 0, .int .u8 0, .int .u8 0] 25) := ⟨_, rfl⟩
  have hbw : Below w.heap.size w W := by
    subst hW
    exact (((Below.refl _ _).alloc (Nat.le_refl _) _).alloc (by simp) _).alloc (by simp; omega) _
  have ba : Blk W w.heap.size 25 (B8 a) := by
    subst hW
    exact (Blk.new w (B8 a).toArray 25).to (((Below.refl _ _).alloc (Nat.le_refl _) _).alloc (by simp) _)
  have bb : Blk W (w.heap.size + 1) 25 (B8 b) := by
    subst hW
    have := (Blk.new (w.alloc (.cells (B8 a).toArray 25)) (B8 b).toArray 25).to ((Below.refl _ _).alloc (Nat.le_refl _) (.cells #[.int .u8 0, .int .u8 0, .int .u8 0, .int .u8 0, .int .u8 0, .int .u8 0, .int .u8 0, .int .u8 0, .int .u8 0, .int .u8 0, .int .u8 0, .int .u8 0, .int .u8 0, .int .u8 0, .int .u8 0, .int .u8 0, .int .u8 0, .int .u8 0, .int .u8 0, .int .u8 0, .int .u8 0, .int .u8 0, .int .u8 0, .int .u8 0, .int .u8 0, .int .u8 0, .int .u8 0, .int .u8 0, .int .u8 0, .int .u8 0, .int .u8 0, .int .u8 0] 25))
    simpa using this
  have bz : Blk W (w.heap.size + 2) 25 (B8 (List.replicate 32 0)) := by
    subst hW
    have := Blk.new ((w.alloc (.cells (B8 a).toArray 25)).alloc (.cells (B8 b).toArray 25)) #[.int .u8 0, .int .u8 0, .int .u8 0, .int .u8 0, .int .u8 0, .int .u8 0, .int .u8 0, .int .u8 0, .int .u8 0, .int .u8 0, .int .u8 0, .int .u8 0, .int .u8 0, .int .u8 0, .int .u8 0, .int .u8 0, .int .u8 0, .int .u8 0, .int .u8 0, .int .u8 0, .int .u8 0, .int .u8 0, .int .u8 0, .int .u8 0, .int .u8 0, .int .u8 0, .int .u8 0, .int .u8 0, .int .u8 0, .int .u8 0, .int .u8 0, .int .u8 0] 25
    rw [show ((w.alloc (.cells (B8 a).toArray 25)).alloc (.cells (B8 b).toArray 25)).heap.size = w.heap.size + 2 from by simp] at this
    exact this
  have HW := Lib.hid hW
  have HA := Lib.hid ha
  have HB := Lib.hid hb
  clear hW ha hb
  go_enter Try.func75, Try.ntmps75
  go_upto_region 1 with fail
  refine wp_at HW.out ?_
  clear HW
  generalize hN : w.heap.size = N at *
  have HN := Lib.hid hN
  clear hN
  have hzl := bz.lt
  refine wp_region_C [(1, true), (2, true), (0, false), (3, false), (4, false), (5, false), (6, false)] (RBut (some (N + 2))) (by kernel_rfl) (by kernel_rfl) (by kernel_rfl) (by decide) (RBut.refl_ _) (RBut.trans_ _) (by intro d v c a w h; cases d <;> exact h) ?_
  have ba' : Blk W.drew N 25 (B8 a) := ba
  have bb' : Blk W.drew (N + 1) 25 (B8 b) := bb
  have bz' : Blk W.drew (N + 2) 25 (B8 (List.replicate 32 0)) := bz
  have hbw' : Below N w W.drew := hbw.drew
  clear ba bb bz hbw hzl
  generalize W.drew = V at *
  repeat (first | (refine wpC_quiet (v := ?_) rfl (by rfl) ?_ ?_; rotate_left; (· (intro w' hw'; go_simp; try with_reducible rfl)); simp only [Act.put, List.setIfInBounds_toArray, List.set_cons_zero, List.set_cons_succ]) | (refine wpC_val (v := ?_) (RBut.refl_ _) rfl (by rfl) ?_ ?_; rotate_left; (· (go_simp; try with_reducible rfl)); simp only [Act.put, List.setIfInBounds_toArray, List.set_cons_zero, List.set_cons_succ]) | (refine wpC_skip rfl (by rfl) ?_; simp only [Act.put, List.setIfInBounds_toArray, List.set_cons_zero, List.set_cons_succ]) | (refine wpC_skip' (RBut.refl_ _) rfl (by rfl) ?_; simp only [Act.put, List.setIfInBounds_toArray, List.set_cons_zero, List.set_cons_succ]))
  (refine wpC_loud rfl (by rfl) ?_; intro K hK; go_simp)
  have h0 : Below V.heap.size V (V.alloc (.cells #[.int .u8 1] 5)) := (Below.refl _ _).alloc (Nat.le_refl _) _
  (refine hK.out _ _ (RBut.of_below h0) ?_; clear hK K; try simp only [Act.put, List.setIfInBounds_toArray, List.set_cons_zero, List.set_cons_succ])
  have s1 : Sl (V.alloc (.cells #[.int .u8 1] 5)) 1 (some ⟨V.heap.size, 0, none⟩) 1 (B8 [1]) := Sl.new (size := 1) V #[.int .u8 1] 5 (0, 0) 1 rfl
  have s2 := ((ba'.to h0).sl (size := 1) (n := 32) (by rw [B8_len, HA.out]))
  have s3 := ((bb'.to h0).sl (size := 1) (n := 32) (by rw [B8_len, HB.out]))
  have hq : N + 2 < V.heap.size := bz'.lt
  have bz1 := bz'.to h0
  have hb1 := hbw'.trans (h0.mono (by omega))
  generalize hV1 : V.alloc (.cells #[.int .u8 1] 5) = V1 at *
  have hq1 : N + 2 < V1.heap.size := bz1.lt
  have HV1 := Lib.hid hV1
  clear hV1 h0 hbw' ba' bb' bz'
  (refine wpC_loud rfl (by rfl) ?_; intro K hK; go_simp)
  have h2 : Below V1.heap.size V1 (V1.alloc (.cells #[.slice (some ⟨V.heap.size, 0, none⟩) 1 1, .slice (some ⟨N, 0, none⟩) 32 32, .slice (some ⟨N + 1, 0, none⟩) 32 32] 82)) := (Below.refl _ _).alloc (Nat.le_refl _) _
  (refine hK.out _ _ (RBut.of_below h2) ?_; clear hK K; try simp only [Act.put, List.setIfInBounds_toArray, List.set_cons_zero, List.set_cons_succ])
  (refine wpC_loud rfl (by rfl) ?_; intro K hK; go_simp)
  refine (concat3_B (some ⟨V.heap.size, 0, none⟩) (some ⟨N, 0, none⟩) (some ⟨N + 1, 0, none⟩) 1 32 32 1 32 32 [1] a b _ _ V1 s1 s2 s3 (by omega) _ rfl).mono ?_
  rintro e w3 ⟨A3, n3, c3, rfl, o3, h3⟩
  have h23 : Below V1.heap.size V1 w3 := h2.trans (h3.mono (by omega))
  (refine hK.out _ _ (RBut.of_below (by have := h3; simpa using this)) ?_; clear hK K; try simp only [Act.put, List.setIfInBounds_toArray, List.set_cons_zero, List.set_cons_succ])
  have bz3 := bz1.to h23
  have hb3 := hb1.trans (h23.mono (by omega))
  have l3 := o3.len8
  have s3' := o3.sl
  have hq3 : N + 2 < w3.heap.size := bz3.lt
  have l3' : n3 ≤ 1099511627776 := by rw [l3]; simp [HA.out, HB.out]
  clear h2 h3 h23 s1 s2 s3 l3 o3 bz1 hb1
  (refine wpC_loud rfl (by rfl) ?_; intro K hK; go_simp)
  refine (sum_any A3 n3 c3 ([1] ++ a ++ b) w3 s3' l3').mono ?_
  rintro e w4 ⟨rfl, h4⟩
  rw [show shaS ([1] ++ a ++ b) = twoS a b from rfl]
  unfold hv
  have hl := twoS_len a b
  obtain ⟨sm, hsm⟩ : ∃ sm, sm = twoS a b := ⟨_, rfl⟩
  rw [← hsm] at hl ⊢
  have HS := Lib.hid hl
  have HT := Lib.hid hsm.symm
  clear hl hsm
  (refine hK.out _ _ (RBut.of_below h4) ?_; clear hK K; try simp only [Act.put, List.setIfInBounds_toArray, List.set_cons_zero, List.set_cons_succ])
  have hb4 := hb3.trans (h4.mono (by omega))
  refine wpC_store_blk rfl (by rfl) _ _ _ rfl (N + 2) 25 (B8 (List.replicate 32 0)) (B8 sm) rfl rfl (bz3.to h4) (by rw [B8_len, B8_len, HS.out]; rfl) (info_hash HS.out) (B8_one _) (fun w' h => h) ?_
  intro w9 b9 hb9
  simp only [Act.put, List.setIfInBounds_toArray, List.set_cons_zero, List.set_cons_succ]
  refine wpC_nil ?_
  have h4s := h4.size
  go_wp2_with fail
  exact bodyPost_ret (v := hv sm) (results_blk Try.results75 rfl b9 Try.underlying25 rfl (info_hash HS.out)) rfl ⟨by rw [HT.out]; rfl, by
    rw [HN.out]
    exact hb4.trans (below_but hb9 (by omega) (by omega))⟩
theorem str_toList (l : List UInt8) : (str l).toList = l := by
  rw [ByteArray.toList_eq]
  rfl
theorem str_take (l : List UInt8) (k : Nat) : (str l).extract 0 k = str (l.take k) := by
  apply ByteArray.ext
  simp [str, ByteArray.data_extract]
end Go.Proofs.Ytdopgooglicaiaa
/- The walk of capstanref2.Two. -/
set_option linter.unusedSimpArgs false
set_option linter.unusedVariables false
namespace Go.Proofs.Ytdopgooglicaiaa
open Go.RowKit
set_option maxRecDepth 100000
set_option maxHeartbeats 1000000 in
theorem refTwo_any (a b : List UInt8) (ha : a.length = 32) (hb : b.length = 32) (w : World) :
    Calls Try.prog 77 #[hv a, hv b] w fun e w' => e = .returned (hv (twoS a b)) ∧ Below w.heap.size w w' := by
  unfold hv
  obtain ⟨W, hW⟩ : ∃ W, W = ((w.alloc (.cells (B8 a).toArray 25)).alloc (.cells (B8 b).toArray 25)).alloc (.cells #[.int .u8 0, .int .u8 0, .int .u8 0, .int .u8 0, .int .u8 0, .int .u8 0, .int .u8 0, .int .u8 0, .int .u8 0, .int .u8 0, .int .u8 0, .int .u8 0, .int .u8 0, .int .u8 0, .int .u8 0, .int .u8 0, .int .u8 0, .int .u8 0, .int .u8 0, .int .u8 0, .int .u8 0, .int .u8 0, .int .u8 0, .int .u8 0, .int .u8 0, .int .u8 0, .int .u8 0, .int .u8 0, .int .u8 0, .int .u8 0, .int .u8 0, .int .u8 0] 25) := ⟨_, rfl⟩
  have hbw : Below w.heap.size w W := by
    subst hW
    exact (((Below.refl _ _).alloc (Nat.le_refl _) _).alloc (by simp) _).alloc (by simp; omega) _
  have ba : Blk W w.heap.size 25 (B8 a) := by
    subst hW
    exact (Blk.new w (B8 a).toArray 25).to (((Below.refl _ _).alloc (Nat.le_refl _) _).alloc (by simp) _)
  have bb : Blk W (w.heap.size + 1) 25 (B8 b) := by
    subst hW
    have := (Blk.new (w.alloc (.cells (B8 a).toArray 25)) (B8 b).toArray 25).to ((Below.refl _ _).alloc (Nat.le_refl _) (.cells #[.int .u8 0, .int .u8 0, .int .u8 0, .int .u8 0, .int .u8 0, .int .u8 0, .int .u8 0, .int .u8 0, .int .u8 0, .int .u8 0, .int .u8 0, .int .u8 0, .int .u8 0, .int .u8 0, .int .u8 0, .int .u8 0, .int .u8 0, .int .u8 0, .int .u8 0, .int .u8 0, .int .u8 0, .int .u8 0, .int .u8 0, .int .u8 0, .int .u8 0, .int .u8 0, .int .u8 0, .int .u8 0, .int .u8 0, .int .u8 0, .int .u8 0, .int .u8 0] 25))
    simpa using this
  have bz : Blk W (w.heap.size + 2) 25 (B8 (List.replicate 32 0)) := by
    subst hW
    have := Blk.new ((w.alloc (.cells (B8 a).toArray 25)).alloc (.cells (B8 b).toArray 25)) #[.int .u8 0, .int .u8 0, .int .u8 0, .int .u8 0, .int .u8 0, .int .u8 0, .int .u8 0, .int .u8 0, .int .u8 0, .int .u8 0, .int .u8 0, .int .u8 0, .int .u8 0, .int .u8 0, .int .u8 0, .int .u8 0, .int .u8 0, .int .u8 0, .int .u8 0, .int .u8 0, .int .u8 0, .int .u8 0, .int .u8 0, .int .u8 0, .int .u8 0, .int .u8 0, .int .u8 0, .int .u8 0, .int .u8 0, .int .u8 0, .int .u8 0, .int .u8 0] 25
    rw [show ((w.alloc (.cells (B8 a).toArray 25)).alloc (.cells (B8 b).toArray 25)).heap.size = w.heap.size + 2 from by simp] at this
    exact this
  have HW := Lib.hid hW
  have HA := Lib.hid ha
  have HB := Lib.hid hb
  clear hW ha hb
  go_enter Try.func77, Try.ntmps77
  go_upto_region 1 with fail
  refine wp_at HW.out ?_
  clear HW
  generalize hN : w.heap.size = N at *
  have HN := Lib.hid hN
  clear hN
  have hzl := bz.lt
  have s2 := (ba.sl (size := 1) (n := 32) (by rw [B8_len, HA.out]))
  have s3 := (bb.sl (size := 1) (n := 32) (by rw [B8_len, HB.out]))
  have o1 := Own.made (size := 1) (n := 1) W W.heap.size 5 #[.int .u8 1] (Nat.le_refl _) (by decide) rfl
  go_upto_region 2 with (first
    | (at_builtin
       refine wpl_app _ _ _ _ elB rfl rfl rfl o1 rfl (s2.alloc _) (B8_one _) (by omega) (by omega) (by simp) ?_
       intro A1 c1 w1 g1))
  have o2 : Own w1 W.heap.size 5 1 A1 33 c1 (B8 ([1] ++ a)) := by have := g1.own; rw [B8_app]; exact this
  have hzW : N + 2 < W.heap.size := hzl
  have hb1 : Below W.heap.size W w1 := ((Below.refl _ _).alloc (Nat.le_refl _) _).trans (g1.below o1 (by simp))
  have s31 := s3.to hb1
  have hs1 := hb1.size
  clear g1 o1 s2 s3 ba bb
  go_wp2_with (first
    | (at_builtin
       refine wpl_app _ _ _ _ elB rfl rfl rfl o2 rfl s31 (B8_one _) (by omega) (by omega) (by omega) ?_
       intro A2 c2 w2 g2))
  have s4 := g2.own.sl
  rw [← B8_app] at s4
  have hb2 : Below W.heap.size W w2 := hb1.trans (g2.below o2 (by omega))
  have bz2 := bz.to hb2
  clear g2 o2 s31 hb1 bz
  refine (refSum_any A2 _ c2 ([1] ++ a ++ b) w2 s4 (by omega)).mono ?_
  rintro e w4 ⟨rfl, h4⟩
  have hl := twoS_len a b
  obtain ⟨sm, hsm⟩ : ∃ sm, sm = twoS a b := ⟨_, rfl⟩
  rw [show shaS ([1] ++ a ++ b) = twoS a b from rfl]
  rw [← hsm] at hl ⊢
  unfold hv
  have HS := Lib.hid hl
  have HT := Lib.hid hsm.symm
  clear hl hsm
  have hb4 := hb2.trans (h4.mono hb2.size)
  have bz4 := bz2.to h4
  have h4s := hb4.size
  go_wp2_with (first
    | (refine wpl_store_blk rfl _ _ _ rfl (N + 2) 25 (B8 (List.replicate 32 0)) (B8 sm) rfl rfl bz4 (by rw [B8_len, B8_len, HS.out]; rfl) (info_hash HS.out) (B8_one _) ?_; intro w9 b9 hb9))
  exact bodyPost_ret (v := hv sm) (results_blk Try.results77 rfl b9 Try.underlying25 rfl (info_hash HS.out)) rfl ⟨by rw [HT.out]; rfl, by
    rw [HN.out]
    exact (hbw.trans (hb4.mono (by omega))).trans (below_but hb9 (by omega) (by omega))⟩
end Go.Proofs.Ytdopgooglicaiaa
/- Walks: the document's tree: over; the root of leaves. -/
set_option linter.unusedSimpArgs false
set_option linter.unusedVariables false
namespace Go.Proofs.Ytdopgooglicaiaa
open Go.RowKit
set_option maxRecDepth 100000
/-- what stands above two sums -/
def overS (a b : List UInt8) : List UInt8 := if a = zero32 ∧ b = zero32 then zero32 else twoS a b
theorem overS_len (a b : List UInt8) : (overS a b).length = 32 := by
  unfold overS
  split
  · rfl
  · exact twoS_len a b
theorem built_zero_ : Try.prog.built 25 [] = some (B8 zero32).toArray := by kernel_rfl
theorem zero_alloc : (#[.int .u8 0, .int .u8 0, .int .u8 0, .int .u8 0, .int .u8 0, .int .u8 0, .int .u8 0, .int .u8 0, .int .u8 0, .int .u8 0, .int .u8 0, .int .u8 0, .int .u8 0, .int .u8 0, .int .u8 0, .int .u8 0, .int .u8 0, .int .u8 0, .int .u8 0, .int .u8 0, .int .u8 0, .int .u8 0, .int .u8 0, .int .u8 0, .int .u8 0, .int .u8 0, .int .u8 0, .int .u8 0, .int .u8 0, .int .u8 0, .int .u8 0, .int .u8 0] : Array Value) = (B8 zero32).toArray := rfl
set_option maxRecDepth 100000 in
set_option maxHeartbeats 1000000 in
theorem refOver_any (a b : List UInt8) (ha : a.length = 32) (hb : b.length = 32) (w : World) :
    Calls Try.prog 53 #[hv a, hv b] w fun e w' => e = .returned (hv (overS a b)) ∧ Below w.heap.size w w' := by
  unfold hv
  obtain ⟨W, HW, hbw, ba, bb, bz⟩ : ∃ W, Hid (W = ((w.alloc (.cells (B8 a).toArray 25)).alloc (.cells (B8 b).toArray 25)).alloc (.cells #[.int .u8 0, .int .u8 0, .int .u8 0, .int .u8 0, .int .u8 0, .int .u8 0, .int .u8 0, .int .u8 0, .int .u8 0, .int .u8 0, .int .u8 0, .int .u8 0, .int .u8 0, .int .u8 0, .int .u8 0, .int .u8 0, .int .u8 0, .int .u8 0, .int .u8 0, .int .u8 0, .int .u8 0, .int .u8 0, .int .u8 0, .int .u8 0, .int .u8 0, .int .u8 0, .int .u8 0, .int .u8 0, .int .u8 0, .int .u8 0, .int .u8 0, .int .u8 0] 25)) ∧ Below w.heap.size w W ∧
      Blk W w.heap.size 25 (B8 a) ∧ Blk W (w.heap.size + 1) 25 (B8 b) ∧ Blk W (w.heap.size + 2) 25 (B8 zero32) := by
    refine ⟨_, rfl, (((Below.refl _ _).alloc (Nat.le_refl _) _).alloc (by simp) _).alloc (by simp; omega) _, ?_, ?_, ?_⟩
    · exact (Blk.new w (B8 a).toArray 25).to (((Below.refl _ _).alloc (Nat.le_refl _) _).alloc (by simp) _)
    · have := (Blk.new (w.alloc (.cells (B8 a).toArray 25)) (B8 b).toArray 25).to ((Below.refl _ _).alloc (Nat.le_refl _) (.cells #[.int .u8 0, .int .u8 0, .int .u8 0, .int .u8 0, .int .u8 0, .int .u8 0, .int .u8 0, .int .u8 0, .int .u8 0, .int .u8 0, .int .u8 0, .int .u8 0, .int .u8 0, .int .u8 0, .int .u8 0, .int .u8 0, .int .u8 0, .int .u8 0, .int .u8 0, .int .u8 0, .int .u8 0, .int .u8 0, .int .u8 0, .int .u8 0, .int .u8 0, .int .u8 0, .int .u8 0, .int .u8 0, .int .u8 0, .int .u8 0, .int .u8 0, .int .u8 0] 25))
      simpa using this
    · have := Blk.new ((w.alloc (.cells (B8 a).toArray 25)).alloc (.cells (B8 b).toArray 25)) #[.int .u8 0, .int .u8 0, .int .u8 0, .int .u8 0, .int .u8 0, .int .u8 0, .int .u8 0, .int .u8 0, .int .u8 0, .int .u8 0, .int .u8 0, .int .u8 0, .int .u8 0, .int .u8 0, .int .u8 0, .int .u8 0, .int .u8 0, .int .u8 0, .int .u8 0, .int .u8 0, .int .u8 0, .int .u8 0, .int .u8 0, .int .u8 0, .int .u8 0, .int .u8 0, .int .u8 0, .int .u8 0, .int .u8 0, .int .u8 0, .int .u8 0, .int .u8 0] 25
      rw [show ((w.alloc (.cells (B8 a).toArray 25)).alloc (.cells (B8 b).toArray 25)).heap.size = w.heap.size + 2 from by simp] at this
      exact this
  have e1 := eq_hash a zero32 ha rfl
  have e2 := eq_hash b zero32 hb rfl
  have HA := Lib.hid ha
  have HB := Lib.hid hb
  clear ha hb
  by_cases h1 : a = zero32
  · rw [decide_eq_true h1] at e1
    by_cases h2 : b = zero32
    · rw [decide_eq_true h2] at e2
      have HO : Hid (overS a b = a) := (by show _ = _; unfold overS; rw [if_pos ⟨h1, h2⟩, h1])
      clear h1 h2
      go_enter Try.func53, Try.ntmps53
      go_upto_region 1 with fail
      refine wp_at HW.out ?_
      clear HW
      go_wp2_with (first
        | (refine wpl_load_fld (by rfl) _ _ rfl w.heap.size 0 rfl (B8 a) _ ba.range Try.underlying25 rfl (info_hash HA.out) ?_)
        | (refine wpl_load_fld (by rfl) _ _ rfl (w.heap.size + 1) 0 rfl (B8 b) _ bb.range Try.underlying25 rfl (info_hash HB.out) ?_)
        | (refine wpl_build (by rfl) _ _ rfl _ built_zero_ ?_)
        | (refine wpl_store_fld (by rfl) _ _ _ rfl (w.heap.size + 2) 0 _ _ (B8 a) rfl _ rfl rfl bz (by rw [B8_len, HA.out]; exact Nat.le_refl _) (info_hash HA.out) (B8_one _) ?_
           intro w1 bz1 bu1
           rw [put_all _ _ (by rw [B8_len, HA.out]; rfl)] at bz1))
      refine bodyPost_ret (v := .agg (B8 (overS a b)).toArray) ?_ rfl ⟨rfl, hbw.trans (below_but bu1 (by omega) hbw.size)⟩
      rw [HO.out]
      exact results_blk Try.results53 rfl bz1 Try.underlying25 rfl (info_hash HA.out)
    · rw [decide_eq_false h2] at e2
      have HO : Hid (overS a b = twoS a b) := (by show _ = _; unfold overS; rw [if_neg (fun h => h2 h.2)])
      clear h1 h2
      go_enter Try.func53, Try.ntmps53
      go_upto_region 1 with fail
      refine wp_at HW.out ?_
      clear HW
      go_wp2_with (first
        | (refine wpl_load_fld (by rfl) _ _ rfl w.heap.size 0 rfl (B8 a) _ ba.range Try.underlying25 rfl (info_hash HA.out) ?_)
        | (refine wpl_load_fld (by rfl) _ _ rfl (w.heap.size + 1) 0 rfl (B8 b) _ bb.range Try.underlying25 rfl (info_hash HB.out) ?_)
        | (refine wpl_build (by rfl) _ _ rfl _ built_zero_ ?_))
      refine (refTwo_any a b HA.out HB.out _).mono ?_
      rintro e w1 ⟨rfl, hb1⟩
      have bz1 := bz.to hb1
      have f1 := hbw.trans (hb1.mono hbw.size)
      unfold hv
      go_wp2_with (first
        | (refine wpl_store_fld (by rfl) _ _ _ rfl (w.heap.size + 2) 0 _ _ (B8 (twoS a b)) rfl _ rfl rfl bz1 (by rw [B8_len, twoS_len]; exact Nat.le_refl _) (info_hash (twoS_len _ _)) (B8_one _) ?_
           intro w2 bz2 bu2
           rw [put_all _ _ (by rw [B8_len, twoS_len]; rfl)] at bz2))
      refine bodyPost_ret (v := .agg (B8 (overS a b)).toArray) ?_ rfl ⟨rfl, f1.trans (below_but bu2 (by omega) f1.size)⟩
      rw [HO.out]
      exact results_blk Try.results53 rfl bz2 Try.underlying25 rfl (info_hash (twoS_len _ _))
  · rw [decide_eq_false h1] at e1
    have HO : Hid (overS a b = twoS a b) := (by show _ = _; unfold overS; rw [if_neg (fun h => h1 h.1)])
    clear h1
    go_enter Try.func53, Try.ntmps53
    go_upto_region 1 with fail
    refine wp_at HW.out ?_
    clear HW
    go_wp2_with (first
      | (refine wpl_load_fld (by rfl) _ _ rfl w.heap.size 0 rfl (B8 a) _ ba.range Try.underlying25 rfl (info_hash HA.out) ?_)
      | (refine wpl_load_fld (by rfl) _ _ rfl (w.heap.size + 1) 0 rfl (B8 b) _ bb.range Try.underlying25 rfl (info_hash HB.out) ?_)
      | (refine wpl_build (by rfl) _ _ rfl _ built_zero_ ?_))
    refine (refTwo_any a b HA.out HB.out _).mono ?_
    rintro e w1 ⟨rfl, hb1⟩
    have bz1 := bz.to hb1
    have f1 := hbw.trans (hb1.mono hbw.size)
    unfold hv
    go_wp2_with (first
      | (refine wpl_store_fld (by rfl) _ _ _ rfl (w.heap.size + 2) 0 _ _ (B8 (twoS a b)) rfl _ rfl rfl bz1 (by rw [B8_len, twoS_len]; exact Nat.le_refl _) (info_hash (twoS_len _ _)) (B8_one _) ?_
         intro w2 bz2 bu2
         rw [put_all _ _ (by rw [B8_len, twoS_len]; rfl)] at bz2))
    refine bodyPost_ret (v := .agg (B8 (overS a b)).toArray) ?_ rfl ⟨rfl, f1.trans (below_but bu2 (by omega) f1.size)⟩
    rw [HO.out]
    exact results_blk Try.results53 rfl bz2 Try.underlying25 rfl (info_hash (twoS_len _ _))
end Go.Proofs.Ytdopgooglicaiaa
/- The walk of capstanlaw12.Hashes: some sums, unlike ones. -/
set_option linter.unusedSimpArgs false
set_option linter.unusedVariables false
namespace Go.Proofs.Ytdopgooglicaiaa
open Go.RowKit
set_option maxRecDepth 100000
theorem fold_fill' (vs : List Value) : ∀ (k : Nat) (cs : Array Value), k + vs.length ≤ cs.size → (List.foldl (fun (cs : Array Value) (x : Value × Nat) => cs.setIfInBounds x.2 x.1) cs (vs.zipIdx k)).toList = cs.toList.take k ++ vs ++ cs.toList.drop (k + vs.length) := by
  induction vs with
  | nil => intro k cs h; simp
  | cons v vs ih =>
    intro k cs h
    simp only [List.zipIdx_cons, List.foldl_cons]
    rw [ih (k + 1) _ (by simp at h ⊢; omega)]
    have hk : k < cs.toList.length := by simp at h ⊢; omega
    simp only [Array.toList_setIfInBounds]
    rw [List.take_set, List.drop_set, if_pos (by omega)]
    rw [List.take_add_one, List.getElem?_eq_getElem hk]
    have e2 : (List.take k cs.toList).length = k := by rw [List.length_take]; omega
    rw [List.set_append_right _ _ (by rw [e2]; exact Nat.le_refl _), e2]
    simp only [Nat.sub_self, Option.toList_some, List.set_cons_zero, List.append_assoc, List.cons_append, List.nil_append, List.length_cons]
    rw [show k + 1 + vs.length = k + (vs.length + 1) from by omega]
theorem fold_sum' (sm : List UInt8) (h : sm.length = 32) : List.foldl (fun (cs : Array Value) (x : Value × Nat) => cs.setIfInBounds x.2 x.1) #[.int .u8 0, .int .u8 0, .int .u8 0, .int .u8 0, .int .u8 0, .int .u8 0, .int .u8 0, .int .u8 0, .int .u8 0, .int .u8 0, .int .u8 0, .int .u8 0, .int .u8 0, .int .u8 0, .int .u8 0, .int .u8 0, .int .u8 0, .int .u8 0, .int .u8 0, .int .u8 0, .int .u8 0, .int .u8 0, .int .u8 0, .int .u8 0, .int .u8 0, .int .u8 0, .int .u8 0, .int .u8 0, .int .u8 0, .int .u8 0, .int .u8 0, .int .u8 0] ((B8 sm).zipIdx) = (B8 sm).toArray := by
  apply Array.toList_inj.1
  rw [fold_fill' (B8 sm) 0 _ (by rw [B8_len, h]; decide), B8_len, h]
  simp
theorem H8_snoc (hs : List (List UInt8)) (h : List UInt8) : H8 (hs ++ [h]) = H8 hs ++ B8 h := by simp [H8]
/-- the sum of a number's two lowest bytes -/
def hashI (i : Nat) : List UInt8 := shaS [UInt8.ofNat (i % 256), UInt8.ofNat (i / 256 % 256)]
def hashL (n : Nat) : List (List UInt8) := (List.range n).map hashI
theorem hashI_len (i : Nat) : (hashI i).length = 32 := shaS_len _
theorem hashL_len (n : Nat) : (hashL n).length = n := by simp [hashL]
theorem hashL_snoc (n : Nat) : hashL (n + 1) = hashL n ++ [hashI n] := by simp [hashL, List.range_succ]
theorem H8_len (hs : List (List UInt8)) (h : ∀ x ∈ hs, x.length = 32) : (H8 hs).length = 32 * hs.length := by
  induction hs with
  | nil => rfl
  | cons a hs ih =>
    have := ih (fun x hx => h x (by simp [hx]))
    have h1 := h a (by simp)
    simp only [H8, List.flatMap_cons, List.length_append, B8_len, List.length_cons] at this ⊢
    omega
theorem hashL_all (n : Nat) : ∀ x ∈ hashL n, x.length = 32 := by
  intro x hx
  obtain ⟨i, _, rfl⟩ := List.mem_map.1 hx
  exact hashI_len i
set_option maxRecDepth 100000 in
set_option maxHeartbeats 1000000 in
theorem hashes_any (n : Nat) (w : World) (hn : n ≤ 4194304) :
    Calls Try.prog 18 #[.int .i64 (n : Int)] w fun e w' => ∃ A c, e = .returned (.slice A n c) ∧ Own w' w.heap.size 25 32 A n c (H8 (hashL n)) ∧ Below w.heap.size w w' := by
  go_enter Try.func18, Try.ntmps18
  go_wp2_with fail
  go_loopw [3, 4] (fun l i wr => ∃ (k : Nat) (A : Option Addr) (c : Nat), i = .int .i64 k ∧ k ≤ n ∧ l = .slice A k c ∧ Own wr w.heap.size 25 32 A k c (H8 (hashL k)) ∧ Below w.heap.size w wr) (fun _ i _ => n - (intOf i).toNat)
  case atStart => exact ⟨0, none, 0, rfl, Nat.zero_le _, rfl, Own.nil_, Below.refl _ _⟩
  case round =>
    obtain ⟨k, A, c, rfl, hk, rfl, ho, hb⟩ := hrel
    by_cases hlt : k < n
    · go_wp2_with fail
      have hb8 : [Value.int .u8 ((k : Int) % 256), Value.int .u8 ((k : Int) / 256 % 256)] = B8 [UInt8.ofNat (k % 256), UInt8.ofNat (k / 256 % 256)] := by
        simp [B8, b8]
      have sB : Sl (wr.alloc (.cells #[.int .u8 ((k : Int) % 256), .int .u8 ((k : Int) / 256 % 256)] 5)) 1 (some ⟨wr.heap.size, 0, none⟩) 2 (B8 [UInt8.ofNat (k % 256), UInt8.ofNat (k / 256 % 256)]) := by
        rw [← hb8]
        exact Sl.new wr #[.int .u8 ((k : Int) % 256), .int .u8 ((k : Int) / 256 % 256)] _ _ 2 rfl
      clear hb8
      have ho1 := ho.alloc (.cells #[.int .u8 ((k : Int) % 256), .int .u8 ((k : Int) / 256 % 256)] 5)
      have hb1 : Below w.heap.size w (wr.alloc (.cells #[.int .u8 ((k : Int) % 256), .int .u8 ((k : Int) / 256 % 256)] 5)) := hb.alloc hb.size _
      refine (refSum_any (some ⟨wr.heap.size, 0, none⟩) 2 2 _ _ sB (by omega)).mono ?_
      rintro e w2 ⟨rfl, hb2⟩
      have ho2 := ho1.to hb2
      have hf2 := hb1.trans (hb2.mono hb1.size)
      have hH : shaS [UInt8.ofNat (k % 256), UInt8.ofNat (k / 256 % 256)] = hashI k := rfl
      rw [hH]
      clear sB ho1 hb1 hb2 hH ho hb
      have HL := Lib.hid (hashI_len k)
      unfold hv
      have hs := hf2.size
      have hbl : (B8 (hashI k)).length = 32 := by rw [B8_len, HL.out]
      go_wp2_with (first
        | (at_builtin
           rw [fold_sum' (hashI k) HL.out]
           refine wpl_push _ _ _ elH rfl rfl rfl ho2 rfl (by rw [List.size_toArray, B8_len, HL.out]) (by intro u hu; exact B8_one _ u (by simpa using hu)) (by omega) (by omega) hs ?_
           intro A3 c3 w3 g3 h3 _))
      have o3 : Own w3 w.heap.size 25 32 A3 (k + 1) c3 (H8 (hashL (k + 1))) := by
        have := g3.own
        rw [hashL_snoc, H8_snoc]
        exact this
      have f3 := hf2.trans h3
      clear g3 h3 ho2 hf2 hs hbl
      go_wp2_with fail
      go_roundw
      case rel => exact ⟨k + 1, A3, c3, by go_num, by omega, rfl, o3, f3⟩
      case measure => simp [intOf]; omega
    · obtain rfl : n = k := by omega
      go_wp2_with fail
      go_ret
      exact ⟨A, c, rfl, ho, hb⟩
end Go.Proofs.Ytdopgooglicaiaa
/- Structs held against each other, field by field. -/
set_option linter.unusedSimpArgs false
set_option linter.unusedVariables false
namespace Go.Proofs.Ytdopgooglicaiaa
open Go.RowKit
set_option maxRecDepth 100000
theorem wpC_load_f {P : Program} {ops : Array Oper} {Q : Exit → Act → World → Prop} {R : World → World → Prop} {i : Nat} {rest : List (Nat × Bool)} {o : Oper} {a : Act} {w : World} (hrefl : ∀ w, R w w) (ho : nth ops.toList i = some o) (hw : Region.wanted o (yielded ops a.tmps) = true) (ty : TypeId) (x : Operand) (hop : o.op = .load ty x)
    (b off : Nat) (hx : a.eval x = .pointer (some ⟨b, off, none⟩)) (cs : List Value) (d : TypeDesc) (hc : w.rangeAt b off cs) (hu : P.underlying ty = some d) (hd : d.isRow = true) (hi : (P.info? ty).map (·.size) = some cs.length)
    (h : wpC P ops Q R rest (a.put o.dst (.agg cs.toArray)) w) : wpC P ops Q R ((i, false) :: rest) a w := by
  unfold wpC wpOp
  simp only [nth_ops ho, hw, if_true]
  refine .inl ?_
  refine wp_load_mid ty x hop b off hx cs d hc hu hd hi ?_
  exact ⟨hrefl w, h⟩
section
variable {P : Program}
theorem run_part_row {t : TypeId} {ds : TypeDesc} {n : Nat} (hu : P.underlying t = some ds) (hd : ds.isRow = true) (hi : (P.info? t).map (·.size) = some n) (cs : Array Value) (off : Nat) (w : World) :
    (part t cs off).run P w = .ok (.agg (cs.extract off (off + n))) w := by
  cases hq : P.info? t with
  | none => simp [hq] at hi
  | some i =>
    have hs : i.size = n := by simpa [hq] using hi
    have hagg : (isAgg t).run P w = .ok true w := by
      unfold isAgg
      rw [Sem.run_bind, run_underlying hu w]
      cases ds <;> simp_all
    simp [part, Sem.run_bind, hagg, sizeOf, typeInfo, hq, hs]
theorem eqFields_step {d : Nat} {xs ys : Array Value} {f : Field} {fs : List Field} {w : World} {a b : Value} {r : Bool} (hn : f.name ≠ "_") (ha : (part f.type xs f.offset).run P w = .ok a w) (hb : (part f.type ys f.offset).run P w = .ok b w)
    (hq : (Op.equalIn d f.type a b).run P w = .ok r w) : (Op.eqFields d xs ys (f :: fs)).run P w = if r then (Op.eqFields d xs ys fs).run P w else .ok false w := by
  simp only [Op.eqFields, hn, ne_eq, not_false_eq_true, if_true, Sem.run_bind, ha, hb, hq, Result.andThen_ok]
  cases r <;> simp
theorem eqFields_nil {d : Nat} {xs ys : Array Value} {w : World} : (Op.eqFields d xs ys []).run P w = .ok true w := by simp [Op.eqFields]
theorem ext_mid (a b c : List Value) : (a ++ b ++ c).toArray.extract a.length (a.length + b.length) = b.toArray := by
  simp [List.extract_toArray, List.extract]
end
end Go.Proofs.Ytdopgooglicaiaa
