/- The texts of this claim, part D: words, plain laws, walks. -/
import Derived.Test.YtdopgooglicaiaaPartC
/- The walk of sha.Sum. -/
set_option linter.unusedSimpArgs false
set_option linter.unusedVariables false
namespace Go.Proofs.Ytdopgooglicaiaa
open Go.RowKit
set_option maxRecDepth 100000
theorem S8.bytes_len (s : S8) : s.bytes.length = 32 := by simp [S8.bytes, S8.list, be4]
theorem S8.byte_at (s : S8) (i : Nat) (h : i < 32) : s.bytes[i]? = some (UInt8.ofNat (s.list.getD (i / 4) 0 / 2 ^ (24 - 8 * (i % 4)))) := by
  match i, h with
  | 0, _ => rfl
  | 1, _ => rfl
  | 2, _ => rfl
  | 3, _ => simp [S8.bytes, S8.list, be4]
  | 4, _ => rfl
  | 5, _ => rfl
  | 6, _ => rfl
  | 7, _ => simp [S8.bytes, S8.list, be4]
  | 8, _ => rfl
  | 9, _ => rfl
  | 10, _ => rfl
  | 11, _ => simp [S8.bytes, S8.list, be4]
  | 12, _ => rfl
  | 13, _ => rfl
  | 14, _ => rfl
  | 15, _ => simp [S8.bytes, S8.list, be4]
  | 16, _ => rfl
  | 17, _ => rfl
  | 18, _ => rfl
  | 19, _ => simp [S8.bytes, S8.list, be4]
  | 20, _ => rfl
  | 21, _ => rfl
  | 22, _ => rfl
  | 23, _ => simp [S8.bytes, S8.list, be4]
  | 24, _ => rfl
  | 25, _ => rfl
  | 26, _ => rfl
  | 27, _ => simp [S8.bytes, S8.list, be4]
  | 28, _ => rfl
  | 29, _ => rfl
  | 30, _ => rfl
  | 31, _ => simp [S8.bytes, S8.list, be4]
  | n + 32, h => exact absurd h (by omega)
theorem be8_at (n i : Nat) (h : i < 8) : (be8 n)[i]? = some (UInt8.ofNat (n / 2 ^ (56 - 8 * i))) := by
  match i, h with
  | 0, _ => rfl
  | 1, _ => rfl
  | 2, _ => rfl
  | 3, _ => rfl
  | 4, _ => rfl
  | 5, _ => rfl
  | 6, _ => rfl
  | 7, _ => simp [be8]
  | n + 8, h => exact absurd h (by omega)
theorem shaBegun_ok : shaBegun.ok := by unfold S8.ok; decide
theorem run_ok (l : List UInt8) : ∀ n, (run shaBegun l n).ok
  | 0 => shaBegun_ok
  | n + 1 => addS_ok _ _
theorem u8_ofNat (x : Nat) : ((UInt8.ofNat x).toNat : Int) = (x : Int) % 256 := by rw [UInt8.toNat_ofNat']; omega
/-- what is padded ahead of the length -/
def padA (b : List UInt8) (k : Nat) : List UInt8 := b ++ [128] ++ List.replicate k 0
theorem padA_len (b : List UInt8) (k : Nat) : (padA b k).length = b.length + 1 + k := by simp [padA]; omega
theorem padA_snoc (b : List UInt8) (k : Nat) : padA b k ++ [0] = padA b (k + 1) := by simp [padA, List.replicate_succ']
theorem pad_eq (b : List UInt8) : pad b = padA b (padZ b.length) ++ be8 (8 * b.length) := rfl
theorem fill8 (l : List UInt8) (k i : Nat) (x : UInt8) (hl : l.length = i) (hk : 0 < k) : (B8 (l ++ List.replicate k 0)).set i (.int .u8 (x.toNat : Int)) = B8 (l ++ [x] ++ List.replicate (k - 1) 0) := by
  obtain ⟨k, rfl⟩ : ∃ j, k = j + 1 := ⟨k - 1, by omega⟩
  rw [B8, List.map_append, List.set_append_right _ _ (by simp [hl]), List.length_map, hl, Nat.sub_self, List.replicate_succ, List.map_cons, List.set_cons_zero]
  simp [B8, b8]
set_option maxRecDepth 100000 in
set_option maxHeartbeats 2000000 in
theorem sum_any (A : Option Addr) (n c : Nat) (bs : List UInt8) (w : World) (hs : Sl w 1 A n (B8 bs)) (hn : n ≤ 1099511627776) :
    Calls Try.prog 74 #[.slice A n c] w fun e w' => e = .returned (hv (shaS bs)) ∧ Below w.heap.size w w' := by
  have HL := Lib.hid hs.len8
  have b2 : Blk (w.alloc (.cells #[.int .u8 0, .int .u8 0, .int .u8 0, .int .u8 0, .int .u8 0, .int .u8 0, .int .u8 0, .int .u8 0, .int .u8 0, .int .u8 0, .int .u8 0, .int .u8 0, .int .u8 0, .int .u8 0, .int .u8 0, .int .u8 0, .int .u8 0, .int .u8 0, .int .u8 0, .int .u8 0, .int .u8 0, .int .u8 0, .int .u8 0, .int .u8 0, .int .u8 0, .int .u8 0, .int .u8 0, .int .u8 0, .int .u8 0, .int .u8 0, .int .u8 0, .int .u8 0] 25)) w.heap.size 25 (B8 (List.replicate 32 0)) := Blk.new w _ _
  have hb0 : Below w.heap.size w (w.alloc (.cells #[.int .u8 0, .int .u8 0, .int .u8 0, .int .u8 0, .int .u8 0, .int .u8 0, .int .u8 0, .int .u8 0, .int .u8 0, .int .u8 0, .int .u8 0, .int .u8 0, .int .u8 0, .int .u8 0, .int .u8 0, .int .u8 0, .int .u8 0, .int .u8 0, .int .u8 0, .int .u8 0, .int .u8 0, .int .u8 0, .int .u8 0, .int .u8 0, .int .u8 0, .int .u8 0, .int .u8 0, .int .u8 0, .int .u8 0, .int .u8 0, .int .u8 0, .int .u8 0] 25)) := (Below.refl _ _).alloc (Nat.le_refl _) _
  go_enter Try.func74, Try.ntmps74
  go_wp2_with fail
  generalize w.alloc (.cells #[.int .u8 0, .int .u8 0, .int .u8 0, .int .u8 0, .int .u8 0, .int .u8 0, .int .u8 0, .int .u8 0, .int .u8 0, .int .u8 0, .int .u8 0, .int .u8 0, .int .u8 0, .int .u8 0, .int .u8 0, .int .u8 0, .int .u8 0, .int .u8 0, .int .u8 0, .int .u8 0, .int .u8 0, .int .u8 0, .int .u8 0, .int .u8 0, .int .u8 0, .int .u8 0, .int .u8 0, .int .u8 0, .int .u8 0, .int .u8 0, .int .u8 0, .int .u8 0] 25) = W at *
  generalize hN : w.heap.size = N at *
  have HN := Lib.hid hN
  clear hN
  have hNW := b2.lt
  refine (clone_B A n c (B8 bs) W (hs.below hb0 (Nat.le_of_eq HN.out)) (B8_one _) (by omega)).mono ?_
  rintro e w1 ⟨A1, n1, c1, rfl, ho1, hb1⟩
  have hn1 : n1 = n := by rw [ho1.len8, HL.out]
  subst hn1
  have hW1 : W.heap.size ≤ w1.heap.size := hb1.size
  go_wp2_with (first
    | (at_builtin
       refine wpl_push8 _ _ _ elB rfl rfl rfl ho1 rfl 128 rfl (by omega) (by omega) ?_
       intro A2 c2 w2 ho2 hb2 _ _))
  have hbA : Below N w W := hb0
  have ho2' : Own w2 W.heap.size 5 1 A2 (n1 + 1) c2 (B8 (padA bs 0)) := by simpa [padA] using ho2
  have hbB : Below W.heap.size W w2 := hb1.trans hb2
  clear ho1 ho2 hb1 hb2 hs
  go_loopw [4] (fun v wr => ∃ (A' : Option Addr) (c' k : Nat), k ≤ padZ n1 ∧ v = .slice A' (n1 + 1 + k) c' ∧ Own wr W.heap.size 5 1 A' (n1 + 1 + k) c' (B8 (padA bs k)) ∧ Below W.heap.size W wr) (fun v _ => n1 + 65 - (match v with | .slice _ m _ => m | _ => 0))
  case atStart => exact ⟨A2, c2, 0, Nat.zero_le _, rfl, ho2', hbB⟩
  case round =>
    clear ho2' hbB
    obtain ⟨A', c', k, hk, rfl, ho, hb⟩ := hrel
    have hz : padZ n1 < 64 := by unfold padZ; omega
    have hsz := hb.size
    by_cases hlt : k < padZ n1
    · have t1 : ((n1 : Int) + 1 + (k : Int)) % 64 = 56 → False := by unfold padZ at hlt; omega
      have t2 : (((n1 : Int) + 1 + (k : Int)) % 64 == 56) = false := by simpa using t1
      clear t1
      go_wp2_with (first
        | (at_builtin
           refine wpl_push8 _ _ _ elB rfl rfl rfl ho rfl 0 rfl (by omega) hsz ?_
           intro A3 c3 w3 ho3 hb3 _ _))
      rw [padA_snoc] at ho3
      go_roundw
      case rel => exact ⟨A3, c3, k + 1, by omega, rfl, ho3, hb.trans hb3⟩
      case measure => simp; omega
    · have hkz : k = padZ n1 := by omega
      have t1 : ((n1 : Int) + 1 + (k : Int)) % 64 = 56 := by rw [hkz]; unfold padZ; omega
      have HK := Lib.hid hkz
      have HT := Lib.hid t1
      have t2 : (((n1 : Int) + 1 + (k : Int)) % 64 == 56) = true := by simpa using t1
      have t3 : (((n1 : Int) + 1 + (k : Int)) % 64 != 56) = false := by rw [bne, t2]; rfl
      clear hkz hk t1 hlt
      obtain ⟨U, hU⟩ : ∃ U, U = 8 * n1 := ⟨_, rfl⟩
      have u1 : (n1 : Int) * 8 = (U : Int) := by omega
      have HU := Lib.hid hU
      obtain ⟨L, hL⟩ : ∃ L, L = n1 + 1 + k := ⟨_, rfl⟩
      rw [← hL] at ho
      have hLb : L ≤ 1099511627776 + 65 := by have := HK.out; omega
      have hL64 : (L + 8) % 64 = 0 := by have := HT.out; omega
      have hLl : L = (padA bs k).length := by rw [padA_len, ← HL.out]; exact hL
      go_wp2_with fail
      rw [← hL, u1]
      have HLL := Lib.hid hLl
      clear hU hL t2 t3 hLl u1
      go_loopw [24, 4] (fun v s wr => ∃ (A' : Option Addr) (c' i : Nat), i ≤ 8 ∧ v = .int .i64 i ∧ s = .slice A' (L + i) c' ∧ Own wr W.heap.size 5 1 A' (L + i) c' (B8 (padA bs k ++ (be8 U).take i)) ∧ Below W.heap.size W wr) (fun v _ _ => 8 - (intOf v).toNat)
      case atStart => exact ⟨A', c', 0, Nat.zero_le _, rfl, rfl, by simpa using ho, hb⟩
      case round =>
        clear ho hb hsz
        obtain ⟨A', c', i, hi, rfl, rfl, ho, hb⟩ := hrel
        have hsz := hb.size
        by_cases hlt : i < 8
        · have t1 : (i : Int) < 8 := by omega
          obtain ⟨sh, hsh⟩ : ∃ sh, sh = 56 - 8 * i := ⟨_, rfl⟩
          have u2 : 56 - 8 * (i : Int) = (sh : Int) := by omega
          have b1 := be8_at U i hlt
          rw [← hsh] at b1
          have hy : (U : Int) / 2 ^ sh % 256 = ((UInt8.ofNat (U / 2 ^ sh)).toNat : Int) := by rw [u8_ofNat]; simp [Int.natCast_ediv, Int.natCast_pow]
          have HY := Lib.hid hy
          have hsn : (be8 U).take (i + 1) = (be8 U).take i ++ [UInt8.ofNat (U / 2 ^ sh)] := by rw [List.take_add_one, b1]; rfl
          have HS := Lib.hid hsn
          clear hsh b1 hy hsn
          go_wp2_with (first
            | (at_builtin
               refine wpl_push8 _ _ _ elB rfl rfl rfl ho rfl (UInt8.ofNat (U / 2 ^ sh)) HY.out (by omega) hsz ?_
               intro A3 c3 w3 ho3 hb3 _ _))
          rw [List.append_assoc, ← HS.out] at ho3
          go_roundw
          case rel => exact ⟨A3, c3, i + 1, by omega, by go_num, rfl, ho3, hb.trans hb3⟩
          case measure => simp [intOf]; omega
        · have t1 : ¬ (i : Int) < 8 := by omega
          obtain rfl : i = 8 := by omega
          have ep : padA bs k ++ (be8 U).take 8 = pad bs := by rw [pad_eq, ← HL.out, ← HK.out, ← HU.out]; rfl
          rw [ep] at ho
          obtain ⟨Pd, hPd⟩ : ∃ Pd, Pd = pad bs := ⟨_, rfl⟩
          rw [← hPd] at ho
          have HPd := Lib.hid hPd
          clear hPd ep
          go_wp2_with fail
          refine (begun_any _).mono ?_
          rintro e w4 ⟨rfl, hb4⟩
          go_wp2_with (first
            | (refine wpl_store_new rfl _ _ _ rfl 125 _ (V32 shaBegun.list) rfl rfl (by kernel_rfl) (info_st rfl) (V32_one _) ?_; intro w5 b5 hb5))
          try simp only [Act.put]
          have hP64 : Pd.length % 64 = 0 := by rw [HPd.out]; exact pad_len bs
          have hPL : Pd.length = L + 8 := ho.len8.symm
          have hc' := ho.le.1
          have hc2 : c' ≤ 9223372036854775807 := by have := ho.le.2; simp only [maxLen] at this; omega
          obtain ⟨g, rfl, hgW, hgw, _⟩ := ho.at8 (by omega)
          have hsz5 : W.heap.size ≤ w4.heap.size := Nat.le_trans hsz hb4.size
          have so5 : Sl w5 1 (some ⟨g, 0, none⟩) (L + 8) (B8 Pd) := (ho.sl.to hb4).to hb5
          have hbW5 : Below W.heap.size W w5 := hb.trans ((hb4.trans (hb5.mono hb4.size)).mono hsz)
          generalize hp6 : w4.heap.size = p6 at *
          have hg6 : g < p6 := by have := hb4.size; omega
          have HP6 := Lib.hid hp6
          have HPL := Lib.hid hPL
          have HP64 := Lib.hid hP64
          clear hp6 ho hb hsz hb4 hb5 hPL hP64
          go_loopw [4] (fun v wr => ∃ (A' : Option Addr) (c' k : Nat), 64 * k ≤ Pd.length ∧ v = .slice A' (Pd.length - 64 * k) c' ∧ Pd.length - 64 * k ≤ c' ∧ c' ≤ 9223372036854775807 ∧ (64 * k < Pd.length → A' = some ⟨g, 64 * k, none⟩) ∧ Blk wr p6 125 (V32 (run shaBegun Pd k).list) ∧ Below p6 w5 wr ∧ p6 < wr.heap.size) (fun v _ => (match v with | .slice _ m _ => m | _ => 0))
          case atStart =>
            refine ⟨some ⟨g, 0, none⟩, c', 0, by omega, by rw [HPL.out]; rfl, by rw [HPL.out]; exact hc', hc2, fun _ => rfl, b5, Below.refl _ _, b5.lt⟩
          case round =>
            clear b5 hc' hc2
            obtain ⟨A', c', k, hk, rfl, hc', hc2, hA, bk, hbk, hpk⟩ := hrel
            by_cases hlt : 64 * k < Pd.length
            · obtain rfl := hA hlt
              have hge : 64 * k + 64 ≤ Pd.length := by have := HP64.out; omega
              obtain ⟨m, hm⟩ : ∃ m, m = Pd.length - 64 * k := ⟨_, rfl⟩
              have t1 : (0 : Int) < (m : Int) := by omega
              have t2 : (64 : Int) ≤ (m : Int) := by omega
              have t3 : (64 : Int) ≤ (c' : Int) := by omega
              rw [← hm]
              rw [← hm] at hc'
              have HM := Lib.hid hm
              clear hm
              go_wp2_with fail
              obtain ⟨bl, hbl⟩ : ∃ bl, bl = (Pd.drop (64 * k)).take 64 := ⟨_, rfl⟩
              have hblk : Sl wr 1 (some ⟨g, 64 * k, none⟩) 64 (B8 bl) := by
                have h1 := ((so5.bel2 hbk (by omega)).back (k := 64 * k) (by have := HPL.out; omega)).front (k := 64) (by have := HPL.out; omega)
                rw [Nat.zero_add] at h1
                rw [hbl]
                exact h1
              have hrun : run shaBegun Pd (k + 1) = comp (run shaBegun Pd k) bl := by rw [hbl, run]
              have HRUN := Lib.hid hrun
              have hok := run_ok Pd k
              obtain ⟨S, hS⟩ : ∃ S, S = run shaBegun Pd k := ⟨_, rfl⟩
              rw [← hS] at bk hok
              rw [← hS] at HRUN
              clear hbl hS hrun
              refine wp_region_C [(1, true), (2, true), (0, false), (3, false), (4, false)] (RBut (some p6)) (by kernel_rfl) (by kernel_rfl) (by kernel_rfl) (by decide) (RBut.refl_ _) (RBut.trans_ _) (by intro d v c a w h; cases d <;> exact h) ?_
              have bk' : Blk wr.drew p6 125 (V32 S.list) := bk
              have hblk' := hblk.drew
              have hbk' : Below p6 w5 wr.drew := hbk.drew
              have hpk' : p6 < wr.drew.heap.size := hpk
              clear bk hblk hbk hpk
              generalize wr.drew = wd at *
              repeat (first | (refine wpC_quiet (v := ?_) rfl (by rfl) ?_ ?_; rotate_left; (· (intro w' hw'; go_simp; try with_reducible rfl)); simp only [Act.put, List.setIfInBounds_toArray, List.set_cons_zero, List.set_cons_succ]) | (refine wpC_val (v := ?_) (RBut.refl_ _) rfl (by rfl) ?_ ?_; rotate_left; (· (go_simp; try with_reducible rfl)); simp only [Act.put, List.setIfInBounds_toArray, List.set_cons_zero, List.set_cons_succ]) | (refine wpC_skip rfl (by rfl) ?_; simp only [Act.put, List.setIfInBounds_toArray, List.set_cons_zero, List.set_cons_succ]) | (refine wpC_skip' (RBut.refl_ _) rfl (by rfl) ?_; simp only [Act.put, List.setIfInBounds_toArray, List.set_cons_zero, List.set_cons_succ]))
              refine wpC_load_blk (RBut.refl_ _) rfl (by rfl) _ _ rfl p6 rfl 125 (V32 S.list) _ bk' Try.underlying125 rfl (info_st rfl) ?_
              simp only [Act.put, List.setIfInBounds_toArray, List.set_cons_zero, List.set_cons_succ]
              (refine wpC_loud rfl (by rfl) ?_; intro K hK; go_simp)
              have AD := add_any S hok g (64 * k) c' bl wd hblk' (by omega) (by omega) hc2
              obtain ⟨T, hT⟩ : ∃ T, T = comp S bl := ⟨_, rfl⟩
              rw [← hT] at AD
              rw [← hT] at HRUN
              clear hT
              refine AD.mono ?_
              clear AD
              rintro e w8 ⟨rfl, hb8⟩
              (refine hK.out _ _ (RBut.of_below hb8) ?_; clear hK K; try simp only [Act.put, List.setIfInBounds_toArray, List.set_cons_zero, List.set_cons_succ])
              refine wpC_store_blk rfl (by rfl) _ _ _ rfl p6 125 (V32 S.list) (V32 T.list) rfl rfl (bk'.to hb8) rfl (info_st rfl) (V32_one _) (fun w' h => h) ?_
              intro w9 b9 hb9
              simp only [Act.put, List.setIfInBounds_toArray, List.set_cons_zero, List.set_cons_succ]
              refine wpC_nil ?_
              have hb5' : Below p6 w5 w9 := hbk'.trans ((hb8.mono (by omega)).trans (below_but hb9 (Nat.le_refl _) (Nat.le_trans (Nat.le_of_lt hpk') hb8.size)))
              have hp9 := b9.lt
              rw [← HRUN.out] at b9
              by_cases hcc : c' = 64
              · subst hcc
                obtain rfl : m = 64 := by omega
                go_wp2_with fail
                go_roundw
                case rel => exact ⟨_, _, k + 1, by omega, by have := HM.out; congr 1; omega, by have := HM.out; omega, by omega, fun h => by have := HM.out; omega, b9, hb5', hp9⟩
                case measure => simp
              · go_wp2_with fail
                go_roundw
                case rel => exact ⟨_, _, k + 1, by omega, by have := HM.out; congr 1; omega, by have := HM.out; omega, by omega, fun h => rfl, b9, hb5', hp9⟩
                case measure => simp; omega
            · have hz : Pd.length - 64 * k = 0 := by omega
              rw [hz]
              rw [hz] at hc'
              have hkk : k = Pd.length / 64 := by omega
              have HKK := Lib.hid hkk
              have HZ := Lib.hid hz
              clear hz hkk
              obtain ⟨S, hS⟩ : ∃ S, S = run shaBegun Pd k := ⟨_, rfl⟩
              rw [← hS] at bk
              have hfin : shaS bs = S.bytes := by rw [hS, HKK.out, HPd.out]; rfl
              have hok : S.ok := by rw [hS]; exact run_ok Pd k
              have HF := Lib.hid hfin
              have b7 : Blk (wr.alloc (.cells #[.int .u8 0, .int .u8 0, .int .u8 0, .int .u8 0, .int .u8 0, .int .u8 0, .int .u8 0, .int .u8 0, .int .u8 0, .int .u8 0, .int .u8 0, .int .u8 0, .int .u8 0, .int .u8 0, .int .u8 0, .int .u8 0, .int .u8 0, .int .u8 0, .int .u8 0, .int .u8 0, .int .u8 0, .int .u8 0, .int .u8 0, .int .u8 0, .int .u8 0, .int .u8 0, .int .u8 0, .int .u8 0, .int .u8 0, .int .u8 0, .int .u8 0, .int .u8 0] 25)) wr.heap.size 25 (B8 (List.replicate 32 0)) := Blk.new wr _ _
              have hb7 : Below wr.heap.size wr (wr.alloc (.cells #[.int .u8 0, .int .u8 0, .int .u8 0, .int .u8 0, .int .u8 0, .int .u8 0, .int .u8 0, .int .u8 0, .int .u8 0, .int .u8 0, .int .u8 0, .int .u8 0, .int .u8 0, .int .u8 0, .int .u8 0, .int .u8 0, .int .u8 0, .int .u8 0, .int .u8 0, .int .u8 0, .int .u8 0, .int .u8 0, .int .u8 0, .int .u8 0, .int .u8 0, .int .u8 0, .int .u8 0, .int .u8 0, .int .u8 0, .int .u8 0, .int .u8 0, .int .u8 0] 25)) := (Below.refl _ _).alloc (Nat.le_refl _) _
              clear hS hfin
              go_wp2_with fail
              generalize wr.alloc (.cells #[.int .u8 0, .int .u8 0, .int .u8 0, .int .u8 0, .int .u8 0, .int .u8 0, .int .u8 0, .int .u8 0, .int .u8 0, .int .u8 0, .int .u8 0, .int .u8 0, .int .u8 0, .int .u8 0, .int .u8 0, .int .u8 0, .int .u8 0, .int .u8 0, .int .u8 0, .int .u8 0, .int .u8 0, .int .u8 0, .int .u8 0, .int .u8 0, .int .u8 0, .int .u8 0, .int .u8 0, .int .u8 0, .int .u8 0, .int .u8 0, .int .u8 0, .int .u8 0] 25) = V at *
              have bkV := bk.to hb7
              have hbV : Below p6 w5 V := hbk.trans (hb7.mono (Nat.le_of_lt hpk))
              have hp7 : p6 ≠ wr.heap.size := by omega
              generalize hq : wr.heap.size = q7 at *
              have HQ := Lib.hid hq
              clear hq bk hbk
              go_loopw [47] (fun v wr => ∃ i : Nat, i ≤ 32 ∧ v = .int .i64 i ∧ Blk wr q7 25 (B8 (S.bytes.take i ++ List.replicate (32 - i) 0)) ∧ RBut (some q7) V wr) (fun v _ => 32 - (intOf v).toNat)
              case atStart => exact ⟨0, by omega, rfl, by simpa using b7, RBut.refl_ _ _⟩
              case round =>
                clear b7
                obtain ⟨i, hi, rfl, bi, hbi⟩ := hrel
                by_cases hlt : i < 32
                · have t1 : (i : Int) < 32 := by omega
                  obtain ⟨d, hd⟩ : ∃ d, d = i / 4 := ⟨_, rfl⟩
                  obtain ⟨r, hr⟩ : ∃ r, r = i % 4 := ⟨_, rfl⟩
                  obtain ⟨sh, hsh⟩ : ∃ sh, sh = 24 - 8 * (i % 4) := ⟨_, rfl⟩
                  have u1 : (i : Int) / 4 = (d : Int) := by omega
                  have u2 : (i : Int) % 4 = (r : Int) := by omega
                  have u3 : 24 - 8 * (r : Int) = (sh : Int) := by omega
                  have t2 : (d : Int) < 8 := by omega
                  have hb := S.byte_at i hlt
                  rw [← hd, ← hsh] at hb
                  have hw : S.list[d]? = some (S.list.getD d 0) := by
                    have : d < S.list.length := by simp [S8.list]; omega
                    rw [List.getD, List.getElem?_eq_getElem this]; rfl
                  generalize S.list.getD d 0 = x at *
                  have bk2 := bkV.but hbi (fun h => by injection h; omega)
                  have cx := (bk2.cell d).trans (V32_get hw)
                  have ci : wr.cell? ⟨q7, i, none⟩ = some (.int .u8 0) := by
                    rw [bi.cell, B8, List.getElem?_map, List.getElem?_append_right (by simp [S8.bytes_len]; omega), List.length_take, S8.bytes_len, Nat.min_eq_left (by omega), Nat.sub_self, List.getElem?_replicate, if_pos (by omega)]
                    rfl
                  have fi := bi.fz i
                  have hy : (x : Int) / 2 ^ sh % 256 = ((UInt8.ofNat (x / 2 ^ sh)).toNat : Int) := by rw [u8_ofNat]; simp [Int.natCast_ediv, Int.natCast_pow]
                  have bs2 := bi.set_ i (.int .u8 ((UInt8.ofNat (x / 2 ^ sh)).toNat : Int))
                  have hst : (B8 (S.bytes.take i ++ List.replicate (32 - i) 0)).set i (.int .u8 ((UInt8.ofNat (x / 2 ^ sh)).toNat : Int)) = B8 (S.bytes.take (i + 1) ++ List.replicate (32 - (i + 1)) 0) := by
                    rw [fill8 _ (32 - i) i _ (by simp [S8.bytes_len]; omega) (by omega), List.take_add_one, hb]
                    rfl
                  rw [hst] at bs2
                  have hbs2 := RBut.trans_ _ _ _ _ hbi (RBut.setC wr q7 i (.int .u8 ((UInt8.ofNat (x / 2 ^ sh)).toNat : Int)))
                  rw [← hy] at bs2 hbs2
                  have BS2 := Lib.hid bs2
                  have HBS2 := Lib.hid hbs2
                  clear hb hw hy hst bs2 hbs2 hd hr hsh
                  go_wp2_with fail
                  go_roundw
                  case rel => exact ⟨i + 1, by omega, by go_num, BS2.out, HBS2.out⟩
                  case measure => simp [intOf]; omega
                · have t1 : ¬ (i : Int) < 32 := by omega
                  obtain rfl : i = 32 := by omega
                  have e32 : S.bytes.take 32 ++ List.replicate (32 - 32) 0 = S.bytes := by rw [List.take_of_length_le (by rw [S8.bytes_len]; omega)]; simp
                  rw [e32] at bi
                  clear e32
                  have hV : Below W.heap.size W V := hbW5.trans (hbV.mono hsz5)
                  have hVs := hV.size
                  have hq7 : p6 < q7 := by have := HQ.out; omega
                  have b2V := (b2.to hV).but hbi (fun h => by injection h; omega)
                  have hbl : S.bytes.length = 32 := S8.bytes_len S
                  generalize S.bytes = sb at *
                  have HBL := Lib.hid hbl
                  clear hbl
                  go_wp2_with (first
                    | (refine wpl_load_blk rfl _ _ rfl q7 rfl 25 (B8 sb) _ bi Try.underlying25 rfl (by rw [B8_len, HBL.out]; kernel_rfl) ?_)
                    | (refine wpl_store_blk rfl _ _ _ rfl N 25 (B8 (List.replicate 32 0)) (B8 sb) rfl rfl b2V (by rw [B8_len, B8_len, HBL.out]; rfl) (by rw [B8_len, HBL.out]; kernel_rfl) (B8_one _) ?_; intro w9 b9 hb9))
                  rw [HF.out]
                  exact bodyPost_ret (v := hv sb) (results_blk Try.results74 rfl b9 Try.underlying25 rfl (by rw [B8_len, HBL.out]; kernel_rfl)) rfl ⟨rfl, by
                    rw [HN.out]
                    have e0 : Below N w V := hbA.trans (hV.mono (Nat.le_of_lt hNW))
                    have e1 := below_but hbi (show N ≤ q7 by omega) (show N ≤ V.heap.size by omega)
                    have e2 := below_but hb9 (Nat.le_refl N) (Nat.le_trans (show N ≤ V.heap.size by omega) e1.size)
                    exact e0.trans (e1.trans e2)⟩
end Go.Proofs.Ytdopgooglicaiaa
/- The walk of capstanref2.Sum. -/
set_option linter.unusedSimpArgs false
set_option linter.unusedVariables false
namespace Go.Proofs.Ytdopgooglicaiaa
open Go.RowKit
set_option maxRecDepth 100000
/-- All blocks that were there are as they were, but for two. -/
def RBut2 (p q : Nat) (w w' : World) : Prop := w'.os = w.os ∧ w'.tape = w.tape ∧ w'.output = w.output ∧ w.heap.size ≤ w'.heap.size ∧ ∀ k, k < w.heap.size → k ≠ p → k ≠ q → w'.heap[k]? = w.heap[k]?
theorem RBut2.refl_ (p q : Nat) (w : World) : RBut2 p q w w := ⟨rfl, rfl, rfl, Nat.le_refl _, fun _ _ _ _ => rfl⟩
theorem RBut2.step {p q r : Nat} {a b c : World} (h : RBut2 p q a b) (k : RBut (some r) b c) (hr : r = p ∨ r = q ∨ a.heap.size ≤ r) : RBut2 p q a c :=
  ⟨k.os.trans h.1, k.tape.trans h.2.1, k.output.trans h.2.2.1, Nat.le_trans h.2.2.2.1 k.size, fun i hi h1 h2 => (k.block i (Nat.lt_of_lt_of_le hi h.2.2.2.1) (fun e => by injection e; omega)).trans (h.2.2.2.2 i hi h1 h2)⟩
theorem RBut2.below {p q : Nat} {a b c : World} (h : RBut2 p q a b) (k : Below b.heap.size b c) : RBut2 p q a c :=
  ⟨k.os.trans h.1, k.tape.trans h.2.1, k.output.trans h.2.2.1, Nat.le_trans h.2.2.2.1 k.size, fun i hi h1 h2 => (k.block i (Nat.lt_of_lt_of_le hi h.2.2.2.1)).trans (h.2.2.2.2 i hi h1 h2)⟩
theorem RBut2.bel {p q B : Nat} {a b : World} (h : RBut2 p q a b) (hp : B ≤ p) (hq : B ≤ q) (hB : B ≤ a.heap.size) : Below B a b :=
  ⟨h.1, h.2.1, h.2.2.1, h.2.2.2.1, fun k hk => h.2.2.2.2 k (by omega) (by omega) (by omega)⟩
theorem Blk.but2 {p q b : Nat} {t : TypeId} {cs : List Value} {a w : World} (h : Blk a b t cs) (r : RBut2 p q a w) (h1 : b ≠ p) (h2 : b ≠ q) : Blk w b t cs := h.keep (r.2.2.2.2 b h.lt h1 h2)
theorem Sl.butT {p q b o size n : Nat} {xs : List Value} {a w : World} (h : Sl a size (some ⟨b, o, none⟩) n xs) (r : RBut2 p q a w) (h1 : b ≠ p) (h2 : b ≠ q) : Sl w size (some ⟨b, o, none⟩) n xs :=
  ⟨h.len, fun hn => by
    obtain ⟨b', o', e, hb, hc⟩ := h.cells hn
    simp only [Option.some.injEq, Addr.mk.injEq, and_true] at e
    obtain ⟨rfl, rfl⟩ := e
    exact ⟨b, o, rfl, Nat.lt_of_lt_of_le hb r.2.2.2.1, fun j u hu => (World.cell?_of_block (a := ⟨b, o + j, none⟩) (r.2.2.2.2 b hb h1 h2)).trans (hc j u hu)⟩⟩
theorem old_set (s old : List Nat) (i x : Nat) (hs : s.length = i) (h : i < old.length) : (V32 (s ++ old.drop i)).set i (.int .u32 (x : Int)) = V32 (s ++ [x] ++ old.drop (i + 1)) := by
  rw [V32, ← List.map_set (f := fun n : Nat => Value.int .u32 (n : Int)), List.set_append_right _ _ (by omega), hs, Nat.sub_self, List.drop_eq_getElem_cons h, List.set_cons_zero, List.append_assoc]
  rfl
theorem sum4b (a b c d : Nat) : IntKind.u32.wrap (IntKind.u32.wrap (IntKind.u32.wrap ((d : Int) + (c : Int)) + (b : Int)) + (a : Int)) = (((a + b + c + d) % 4294967296 : Nat) : Int) := by
  simp only [IntKind.wrap_u32']
  omega
theorem sum2b (x y : Nat) : IntKind.u32.wrap ((y : Int) + (x : Int)) = (((x + y) % 4294967296 : Nat) : Int) := by
  simp only [IntKind.wrap_u32']
  omega
theorem S8.bytes4 (s : S8) (i : Nat) (h : i < 8) : s.bytes.take (4 * (i + 1)) = s.bytes.take (4 * i) ++ be4 (s.list.getD i 0) := by
  match i, h with
  | 0, _ => rfl
  | 1, _ => rfl
  | 2, _ => rfl
  | 3, _ => rfl
  | 4, _ => rfl
  | 5, _ => rfl
  | 6, _ => rfl
  | 7, _ => rfl
theorem fill4 (l l' : List UInt8) (i : Nat) (a b c d : UInt8) (hl : l.length = 4 * i) (hi : i < 8) (h : l' = l ++ [a, b, c, d]) :
    ((((B8 (l ++ List.replicate (32 - 4 * i) 0)).set (4 * i) (.int .u8 (a.toNat : Int))).set (4 * i + 1) (.int .u8 (b.toNat : Int))).set (4 * i + 2) (.int .u8 (c.toNat : Int))).set (4 * i + 3) (.int .u8 (d.toNat : Int)) = B8 (l' ++ List.replicate (32 - 4 * (i + 1)) 0) := by
  rw [fill8 l _ _ a hl (by omega), fill8 (l ++ [a]) _ _ b (by simp [hl]) (by omega), fill8 (l ++ [a] ++ [b]) _ _ c (by simp [hl]) (by omega), fill8 (l ++ [a] ++ [b] ++ [c]) _ _ d (by simp [hl]) (by omega), h, show 32 - 4 * i - 1 - 1 - 1 - 1 = 32 - 4 * (i + 1) from by omega]
  simp
/-- as 'mix', the other way round -/
def mix2 (t s : S8) (j : Nat) : List Nat := (addS t s).list.take j ++ s.list.drop j
theorem mix2_at (t s : S8) (j : Nat) (h : j < 8) : ∃ x y, t.list[j]? = some x ∧ (mix2 t s j)[j]? = some y ∧ (V32 (mix2 t s j)).set j (.int .u32 (((x + y) % 4294967296 : Nat) : Int)) = V32 (mix2 t s (j + 1)) := by
  match j, h with
  | 0, _ => exact ⟨_, _, rfl, rfl, rfl⟩
  | 1, _ => exact ⟨_, _, rfl, rfl, rfl⟩
  | 2, _ => exact ⟨_, _, rfl, rfl, rfl⟩
  | 3, _ => exact ⟨_, _, rfl, rfl, rfl⟩
  | 4, _ => exact ⟨_, _, rfl, rfl, rfl⟩
  | 5, _ => exact ⟨_, _, rfl, rfl, rfl⟩
  | 6, _ => exact ⟨_, _, rfl, rfl, rfl⟩
  | 7, _ => exact ⟨_, _, rfl, rfl, rfl⟩
set_option maxRecDepth 100000 in
set_option maxHeartbeats 1000000 in
theorem words_any (w : World) : Calls Try.prog 68 #[] w fun e w' => e = .returned (.agg (V32 shaKs).toArray) ∧ Below w.heap.size w w' := by
  go_enter Try.func68, Try.ntmps68
  go_wp2_with (refine wpl_store_new rfl _ _ _ rfl 107 _ (V32 shaKs) rfl (by kernel_rfl) (by kernel_rfl) (info_64 (by kernel_rfl)) (V32_one _) ?_; intro w4 b4 hb4)
  exact bodyPost_ret (v := .agg (V32 shaKs).toArray) (results_blk Try.results68 rfl b4 Try.underlying107 rfl (info_64 (by kernel_rfl))) rfl ⟨rfl, hb4⟩
end Go.Proofs.Ytdopgooglicaiaa
/- A round of an inner loop of capstanref2.Sum. -/
set_option linter.unusedSimpArgs false
set_option linter.unusedVariables false
namespace Go.Proofs.Ytdopgooglicaiaa
open Go.RowKit
set_option maxRecDepth 100000
/-- the bodies of a code's loops -/
def loopsOf : Code → List Code
  | .loop c => c :: loopsOf c
  | .seq a b => loopsOf a ++ loopsOf b
  | .block _ c => loopsOf c
  | .scope c => loopsOf c
  | .cond _ a b => loopsOf a ++ loopsOf b
  | _ => []
noncomputable def refBody (k : Nat) : Code := (loopsOf (Try.f40.body.getD .skip)).getD k .skip
set_option maxRecDepth 1000000 in
set_option maxHeartbeats 8000000 in
theorem refS4 (s0 s1 s2 s3 s4 s6 s7 s11 s12 s13 s14 s15 s16 s17 s18 s19 s20 s21 s22 s23 s24 s25 s26 s27 s28 s29 s30 s31 s32 s33 s34 s35 s36 s37 s38 s39 s40 s41 s42 s43 s44 s45 s46 s47 s48 s49 s50 s51 s52 s53 s54 s55 s56 s57 s58 s59 s60 s61 s62 s63 s64 s65 s66 s67 s68 s69 s70 s71 s72 s73 s74 s75 s76 s77 s78 s79 s80 s81 s82 s83 s84 s85 s86 s87 s88 s89 s90 s91 s92 s93 s94 s95 s96 s97 s98 s99 s100 s101 s102 s103 s104 s105 s106 s107 s108 s109 s110 s111 s112 s113 s114 s115 s116 s117 s118 s119 s120 s121 s122 s123 s124 s125 s126 s127 s128 s129 s130 s131 s132 s133 s134 s135 s136 s137 s138 s139 s140 s141 s142 s143 s144 s145 s146 s147 s148 s149 s150 s151 s152 s153 s154 s155 s156 s157 s158 s159 s160 s161 s162 s163 s164 s165 s166 s167 s168 s169 s170 s171 s172 s173 s174 s175 s176 s177 s178 s179 s180 s181 s182 s183 s184 s185 s186 s187 s188 s189 s190 s191 s192 s193 s194 s195 s196 s197 s198 s199 s200 s201 s202 s203 s204 s205 s206 s207 s208 s209 s210 s211 s212 s213 s214 s215 s216 s217 s218 s219 s220 s221 s222 s223 s224 s225 s226 s227 s228 s229 s230 s231 s232 s233 s234 s235 s236 s237 s238 s239 s240 s241 s242 s243 s244 s245 s246 s247 s248 s249 s250 s251 s252 s253 s254 s255 s256 s257 s258 s259 s260 s261 s262 s263 s264 s265 s266 s267 s268 s269 s270 s271 s272 s273 s274 s275 s276 s277 : Value)
    (g m c' pW q0 i : Nat) (Pd bl : List UInt8) (old : List Nat) (wr : World) (Q : Exit → Act → World → Prop) (hP : ∀ (d : Option Tmp) (v : Value) c a w, Q (.panic c) (a.put d v) w → Q (.panic c) a w)
    (hlt : i < 16) (hm : Pd.length = m) (hmb : m ≤ 1099511627876) (hge : q0 + 64 ≤ m) (HGET : Hid (∀ j, j < 64 → bl.getD j 0 = Pd.getD (q0 + j) 0)) (hold' : Hid (old.length = 64)) (hgw : g < pW) (sR : Sl wr 1 (some ⟨g, 0, none⟩) m (B8 Pd)) (bi : Blk wr pW 107 (V32 (sched bl i ++ old.drop i)))
    (hQ : ∀ (n61 n62 n63 n64 n65 n66 n67 n68 n69 n70 n71 n72 n73 n74 n75 n76 n77 n78 n79 n80 n81 n82 n83 n84 n85 n86 n87 n88 n89 n90 n91 n92 n93 n94 n95 n96 n97 n98 n99 n11 : Value) (w' : World), Blk w' pW 107 (V32 (sched bl (i + 1) ++ old.drop (i + 1))) → RBut (some pW) wr w' → Q .normal ⟨#[s0, s1, s2, s3, s4, (.slice (some ⟨g, 0, none⟩) m c'), s6, s7, (.pointer (some ⟨pW, 0, none⟩)), (.int .i64 (q0 : Int)), (.int .i64 ((i : Int) + 1)), n11, s12, s13, s14, s15, s16, s17, s18, s19, s20, s21, s22, s23, s24, s25, s26, s27, s28, s29, s30, s31, s32, s33, s34, s35, s36, s37, s38, s39, s40, s41, s42, s43, s44, s45, s46, s47, s48, s49, s50, s51, s52, s53, s54, s55, s56, s57, s58, s59, s60, n61, n62, n63, n64, n65, n66, n67, n68, n69, n70, n71, n72, n73, n74, n75, n76, n77, n78, n79, n80, n81, n82, n83, n84, n85, n86, n87, n88, n89, n90, n91, n92, n93, n94, n95, n96, n97, n98, n99, s100, s101, s102, s103, s104, s105, s106, s107, s108, s109, s110, s111, s112, s113, s114, s115, s116, s117, s118, s119, s120, s121, s122, s123, s124, s125, s126, s127, s128, s129, s130, s131, s132, s133, s134, s135, s136, s137, s138, s139, s140, s141, s142, s143, s144, s145, s146, s147, s148, s149, s150, s151, s152, s153, s154, s155, s156, s157, s158, s159, s160, s161, s162, s163, s164, s165, s166, s167, s168, s169, s170, s171, s172, s173, s174, s175, s176, s177, s178, s179, s180, s181, s182, s183, s184, s185, s186, s187, s188, s189, s190, s191, s192, s193, s194, s195, s196, s197, s198, s199, s200, s201, s202, s203, s204, s205, s206, s207, s208, s209, s210, s211, s212, s213, s214, s215, s216, s217, s218, s219, s220, s221, s222, s223, s224, s225, s226, s227, s228, s229, s230, s231, s232, s233, s234, s235, s236, s237, s238, s239, s240, s241, s242, s243, s244, s245, s246, s247, s248, s249, s250, s251, s252, s253, s254, s255, s256, s257, s258, s259, s260, s261, s262, s263, s264, s265, s266, s267, s268, s269, s270, s271, s272, s273, s274, s275, s276, s277], []⟩ w') :
    Code.wp Try.prog (refBody 3) Q ⟨#[s0, s1, s2, s3, s4, (.slice (some ⟨g, 0, none⟩) m c'), s6, s7, (.pointer (some ⟨pW, 0, none⟩)), (.int .i64 (q0 : Int)), (.int .i64 (i : Int)), s11, s12, s13, s14, s15, s16, s17, s18, s19, s20, s21, s22, s23, s24, s25, s26, s27, s28, s29, s30, s31, s32, s33, s34, s35, s36, s37, s38, s39, s40, s41, s42, s43, s44, s45, s46, s47, s48, s49, s50, s51, s52, s53, s54, s55, s56, s57, s58, s59, s60, s61, s62, s63, s64, s65, s66, s67, s68, s69, s70, s71, s72, s73, s74, s75, s76, s77, s78, s79, s80, s81, s82, s83, s84, s85, s86, s87, s88, s89, s90, s91, s92, s93, s94, s95, s96, s97, s98, s99, s100, s101, s102, s103, s104, s105, s106, s107, s108, s109, s110, s111, s112, s113, s114, s115, s116, s117, s118, s119, s120, s121, s122, s123, s124, s125, s126, s127, s128, s129, s130, s131, s132, s133, s134, s135, s136, s137, s138, s139, s140, s141, s142, s143, s144, s145, s146, s147, s148, s149, s150, s151, s152, s153, s154, s155, s156, s157, s158, s159, s160, s161, s162, s163, s164, s165, s166, s167, s168, s169, s170, s171, s172, s173, s174, s175, s176, s177, s178, s179, s180, s181, s182, s183, s184, s185, s186, s187, s188, s189, s190, s191, s192, s193, s194, s195, s196, s197, s198, s199, s200, s201, s202, s203, s204, s205, s206, s207, s208, s209, s210, s211, s212, s213, s214, s215, s216, s217, s218, s219, s220, s221, s222, s223, s224, s225, s226, s227, s228, s229, s230, s231, s232, s233, s234, s235, s236, s237, s238, s239, s240, s241, s242, s243, s244, s245, s246, s247, s248, s249, s250, s251, s252, s253, s254, s255, s256, s257, s258, s259, s260, s261, s262, s263, s264, s265, s266, s267, s268, s269, s270, s271, s272, s273, s274, s275, s276, s277], []⟩ wr := by
  conv => arg 2; whnf
  have hbi : RBut (some pW) wr wr := RBut.refl_ _ _
  have HM := Lib.hid hm
  clear hm
  have t1 : (i : Int) < 16 := by omega
  obtain ⟨p0, hp0⟩ : ∃ p0 : Nat, p0 = q0 + 4 * i := ⟨_, rfl⟩
  obtain ⟨p1, hp1⟩ : ∃ p1 : Nat, p1 = q0 + (4 * i + 1) := ⟨_, rfl⟩
  obtain ⟨p2, hp2⟩ : ∃ p2 : Nat, p2 = q0 + (4 * i + 2) := ⟨_, rfl⟩
  obtain ⟨p3, hp3⟩ : ∃ p3 : Nat, p3 = q0 + (4 * i + 3) := ⟨_, rfl⟩
  have hml : m = Pd.length := HM.out.symm
  have cel : ∀ p, p < m → ∃ y : UInt8, Pd.getD p 0 = y ∧ ∀ w', RBut (some pW) wr.drew w' → w'.cell? ⟨g, p, none⟩ = some (.int .u8 (y.toNat : Int)) := by
    intro p hp
    refine ⟨Pd.getD p 0, rfl, fun w' hw' => ?_⟩
    have h1 := (sR.but hbi (fun h => by injection h; omega)).drew.but hw' (fun h => by injection h; omega)
    have h2 := h1.cell (k := p) (u := .int .u8 ((Pd.getD p 0).toNat : Int)) (by simp [B8, b8, List.getElem?_eq_getElem (show p < Pd.length by omega), List.getD])
    rwa [Nat.zero_add] at h2
  obtain ⟨y0, g0, c0⟩ := cel p0 (by omega)
  obtain ⟨y1, g1, c1⟩ := cel p1 (by omega)
  obtain ⟨y2, g2, c2⟩ := cel p2 (by omega)
  obtain ⟨y3, g3, c3⟩ := cel p3 (by omega)
  have hx : w4 bl i = y0.toNat * 16777216 + y1.toNat * 65536 + y2.toNat * 256 + y3.toNat := by
    unfold w4
    rw [HGET.out _ (by omega), HGET.out _ (by omega), HGET.out _ (by omega), HGET.out _ (by omega), ← hp3, ← hp2, ← hp1, ← hp0, g0, g1, g2, g3]
  have HX := Lib.hid hx
  have l0 : (p0 : Int) < m := by omega
  have t64 : (i : Int) < 64 := by omega
  have l1 : (p1 : Int) < m := by omega
  have l2 : (p2 : Int) < m := by omega
  have l3 : (p3 : Int) < m := by omega
  have v0 : (q0 : Int) + 4 * (i : Int) = (p0 : Int) := by omega
  have v1 : IntKind.i64.wrap ((p0 : Int) + 1) = (p1 : Int) := by rw [IntWalk.i64_in _ (by omega)]; omega
  have v2 : IntKind.i64.wrap ((p0 : Int) + 2) = (p2 : Int) := by rw [IntWalk.i64_in _ (by omega)]; omega
  have v3 : IntKind.i64.wrap ((p0 : Int) + 3) = (p3 : Int) := by rw [IntWalk.i64_in _ (by omega)]; omega
  have bi' : Blk wr.drew pW 107 (V32 (sched bl i ++ old.drop i)) := bi
  have hbi' := RBut.trans_ _ _ _ _ hbi (RBut.of_below (Below.refl _ _).drew)
  have hol : i < old.length := by rw [hold'.out]; omega
  clear cel g0 g1 g2 g3 hx hp0 hp1 hp2 hp3 bi hbi hml
  go_wp2_with fail
  refine wp_region_C [(0, true), (1, true), (2, true), (3, true), (4, true), (5, true), (6, true), (7, true), (8, true), (9, true), (10, true), (11, true), (12, true), (13, true), (14, true), (15, true), (16, true), (17, true), (18, true), (19, true), (20, true), (21, true), (22, true), (23, true), (24, false), (25, false), (26, false), (27, false), (28, false), (29, false), (30, false), (31, false)] (RBut (some pW)) (by kernel_rfl) (by kernel_rfl) (by kernel_rfl) (by decide) (RBut.refl_ _) (RBut.trans_ _) (by intro d v c a w h; exact hP d v c a w h) ?_
  generalize wr.drew = wd at *
  have d3 := c3 wd (RBut.refl_ _ _)
  have BW := be_word y0 y1 y2 y3
  rw [← HX.out] at BW
  have ce : wd.cell? ⟨pW, i, none⟩ = (V32 (sched bl i ++ old.drop i))[i]? := bi'.cell i
  rw [List.getElem?_eq_getElem (by rw [V32_len]; simp [sched_len]; omega)] at ce
  have fe := bi'.fz i
  have bj := bi'.set_ i (.int .u32 ((w4 bl i : Nat) : Int))
  rw [old_set _ old i _ (sched_len bl i) hol] at bj
  have hbj := RBut.trans_ _ _ _ _ hbi' (RBut.setC wd pW i (.int .u32 ((w4 bl i : Nat) : Int)))
  have BJ := Lib.hid bj
  have HBJ := Lib.hid hbj
  clear bj hbj
  generalize (V32 (sched bl i ++ old.drop i))[i]'_ = zz at ce
  repeat (first | (refine wpC_quiet (v := ?_) rfl (by rfl) ?_ ?_; rotate_left; (· (intro w' hw'; go_simp; try with_reducible rfl)); simp only [Act.put, List.setIfInBounds_toArray, List.set_cons_zero, List.set_cons_succ]) | (refine wpC_val (v := ?_) (RBut.refl_ _) rfl (by rfl) ?_ ?_; rotate_left; (· (go_simp; try with_reducible rfl)); simp only [Act.put, List.setIfInBounds_toArray, List.set_cons_zero, List.set_cons_succ]) | (refine wpC_skip rfl (by rfl) ?_; simp only [Act.put, List.setIfInBounds_toArray, List.set_cons_zero, List.set_cons_succ]) | (refine wpC_skip' (RBut.refl_ _) rfl (by rfl) ?_; simp only [Act.put, List.setIfInBounds_toArray, List.set_cons_zero, List.set_cons_succ]))
  (refine wpC_loud rfl (by rfl) ?_; intro K hK; go_simp)
  (refine hK.out _ _ (RBut.setC _ _ _ _) ?_; clear hK K; try simp only [Act.put, List.setIfInBounds_toArray, List.set_cons_zero, List.set_cons_succ])
  refine wpC_nil ?_
  clear ce fe BW
  go_wp2_with fail
  exact hQ _ _ _ _ _ _ _ _ _ _ _ _ _ _ _ _ _ _ _ _ _ _ _ _ _ _ _ _ _ _ _ _ _ _ _ _ _ _ _ _ _ (by rw [sched_lo bl i hlt]; exact BJ.out) HBJ.out
end Go.Proofs.Ytdopgooglicaiaa
/- A round of an inner loop of capstanref2.Sum. -/
set_option linter.unusedSimpArgs false
set_option linter.unusedVariables false
namespace Go.Proofs.Ytdopgooglicaiaa
open Go.RowKit
set_option maxRecDepth 100000
set_option maxRecDepth 1000000 in
set_option maxHeartbeats 8000000 in
theorem refS5 (s0 s1 s2 s3 s4 s5 s6 s7 s9 s10 s11 s13 s14 s15 s16 s17 s18 s19 s20 s21 s22 s23 s24 s25 s26 s27 s28 s29 s30 s31 s32 s33 s34 s35 s36 s37 s38 s39 s40 s41 s42 s43 s44 s45 s46 s47 s48 s49 s50 s51 s52 s53 s54 s55 s56 s57 s58 s59 s60 s61 s62 s63 s64 s65 s66 s67 s68 s69 s70 s71 s72 s73 s74 s75 s76 s77 s78 s79 s80 s81 s82 s83 s84 s85 s86 s87 s88 s89 s90 s91 s92 s93 s94 s95 s96 s97 s98 s99 s100 s101 s102 s103 s104 s105 s106 s107 s108 s109 s110 s111 s112 s113 s114 s115 s116 s117 s118 s119 s120 s121 s122 s123 s124 s125 s126 s127 s128 s129 s130 s131 s132 s133 s134 s135 s136 s137 s138 s139 s140 s141 s142 s143 s144 s145 s146 s147 s148 s149 s150 s151 s152 s153 s154 s155 s156 s157 s158 s159 s160 s161 s162 s163 s164 s165 s166 s167 s168 s169 s170 s171 s172 s173 s174 s175 s176 s177 s178 s179 s180 s181 s182 s183 s184 s185 s186 s187 s188 s189 s190 s191 s192 s193 s194 s195 s196 s197 s198 s199 s200 s201 s202 s203 s204 s205 s206 s207 s208 s209 s210 s211 s212 s213 s214 s215 s216 s217 s218 s219 s220 s221 s222 s223 s224 s225 s226 s227 s228 s229 s230 s231 s232 s233 s234 s235 s236 s237 s238 s239 s240 s241 s242 s243 s244 s245 s246 s247 s248 s249 s250 s251 s252 s253 s254 s255 s256 s257 s258 s259 s260 s261 s262 s263 s264 s265 s266 s267 s268 s269 s270 s271 s272 s273 s274 s275 s276 s277 : Value)
    (pW i : Nat) (bl : List UInt8) (old : List Nat) (wr : World) (Q : Exit → Act → World → Prop) (hP : ∀ (d : Option Tmp) (v : Value) c a w, Q (.panic c) (a.put d v) w → Q (.panic c) a w)
    (hi16 : 16 ≤ i) (hlt : i < 64) (hold' : Hid (old.length = 64)) (bi : Blk wr pW 107 (V32 (sched bl i ++ old.drop i)))
    (hQ : ∀ (n100 n101 n102 n103 n104 n105 n106 n107 n108 n109 n110 n111 n112 n113 n114 n115 n116 n117 n118 n119 n120 n121 n122 n123 n124 n125 n126 n127 n128 n129 n130 n131 n132 n133 n134 n135 n136 n137 n138 n139 n140 n13 n14 : Value) (w' : World), Blk w' pW 107 (V32 (sched bl (i + 1) ++ old.drop (i + 1))) → RBut (some pW) wr w' → Q .normal ⟨#[s0, s1, s2, s3, s4, s5, s6, s7, (.pointer (some ⟨pW, 0, none⟩)), s9, s10, s11, (.int .i64 ((i : Int) + 1)), n13, n14, s15, s16, s17, s18, s19, s20, s21, s22, s23, s24, s25, s26, s27, s28, s29, s30, s31, s32, s33, s34, s35, s36, s37, s38, s39, s40, s41, s42, s43, s44, s45, s46, s47, s48, s49, s50, s51, s52, s53, s54, s55, s56, s57, s58, s59, s60, s61, s62, s63, s64, s65, s66, s67, s68, s69, s70, s71, s72, s73, s74, s75, s76, s77, s78, s79, s80, s81, s82, s83, s84, s85, s86, s87, s88, s89, s90, s91, s92, s93, s94, s95, s96, s97, s98, s99, n100, n101, n102, n103, n104, n105, n106, n107, n108, n109, n110, n111, n112, n113, n114, n115, n116, n117, n118, n119, n120, n121, n122, n123, n124, n125, n126, n127, n128, n129, n130, n131, n132, n133, n134, n135, n136, n137, n138, n139, n140, s141, s142, s143, s144, s145, s146, s147, s148, s149, s150, s151, s152, s153, s154, s155, s156, s157, s158, s159, s160, s161, s162, s163, s164, s165, s166, s167, s168, s169, s170, s171, s172, s173, s174, s175, s176, s177, s178, s179, s180, s181, s182, s183, s184, s185, s186, s187, s188, s189, s190, s191, s192, s193, s194, s195, s196, s197, s198, s199, s200, s201, s202, s203, s204, s205, s206, s207, s208, s209, s210, s211, s212, s213, s214, s215, s216, s217, s218, s219, s220, s221, s222, s223, s224, s225, s226, s227, s228, s229, s230, s231, s232, s233, s234, s235, s236, s237, s238, s239, s240, s241, s242, s243, s244, s245, s246, s247, s248, s249, s250, s251, s252, s253, s254, s255, s256, s257, s258, s259, s260, s261, s262, s263, s264, s265, s266, s267, s268, s269, s270, s271, s272, s273, s274, s275, s276, s277], []⟩ w') :
    Code.wp Try.prog (refBody 4) Q ⟨#[s0, s1, s2, s3, s4, s5, s6, s7, (.pointer (some ⟨pW, 0, none⟩)), s9, s10, s11, (.int .i64 (i : Int)), s13, s14, s15, s16, s17, s18, s19, s20, s21, s22, s23, s24, s25, s26, s27, s28, s29, s30, s31, s32, s33, s34, s35, s36, s37, s38, s39, s40, s41, s42, s43, s44, s45, s46, s47, s48, s49, s50, s51, s52, s53, s54, s55, s56, s57, s58, s59, s60, s61, s62, s63, s64, s65, s66, s67, s68, s69, s70, s71, s72, s73, s74, s75, s76, s77, s78, s79, s80, s81, s82, s83, s84, s85, s86, s87, s88, s89, s90, s91, s92, s93, s94, s95, s96, s97, s98, s99, s100, s101, s102, s103, s104, s105, s106, s107, s108, s109, s110, s111, s112, s113, s114, s115, s116, s117, s118, s119, s120, s121, s122, s123, s124, s125, s126, s127, s128, s129, s130, s131, s132, s133, s134, s135, s136, s137, s138, s139, s140, s141, s142, s143, s144, s145, s146, s147, s148, s149, s150, s151, s152, s153, s154, s155, s156, s157, s158, s159, s160, s161, s162, s163, s164, s165, s166, s167, s168, s169, s170, s171, s172, s173, s174, s175, s176, s177, s178, s179, s180, s181, s182, s183, s184, s185, s186, s187, s188, s189, s190, s191, s192, s193, s194, s195, s196, s197, s198, s199, s200, s201, s202, s203, s204, s205, s206, s207, s208, s209, s210, s211, s212, s213, s214, s215, s216, s217, s218, s219, s220, s221, s222, s223, s224, s225, s226, s227, s228, s229, s230, s231, s232, s233, s234, s235, s236, s237, s238, s239, s240, s241, s242, s243, s244, s245, s246, s247, s248, s249, s250, s251, s252, s253, s254, s255, s256, s257, s258, s259, s260, s261, s262, s263, s264, s265, s266, s267, s268, s269, s270, s271, s272, s273, s274, s275, s276, s277], []⟩ wr := by
  conv => arg 2; whnf
  have hbi : RBut (some pW) wr wr := RBut.refl_ _ _
  have t1 : (i : Int) < 64 := by omega
  go_wp2_with fail
  have hS : ∀ j, j < i → ∃ x, (sched bl i).getD j 0 = x ∧ ∀ w', RBel wr.drew w' → w'.cell? ⟨pW, j, none⟩ = some (.int .u32 (x : Int)) := by
    intro j hj
    refine ⟨(sched bl i).getD j 0, rfl, fun w' hw' => ?_⟩
    have hbk : Blk w' pW 107 (V32 (sched bl i ++ old.drop i)) := Blk.to (w := wr.drew) bi hw'
    rw [hbk.cell]
    refine V32_get ?_
    rw [List.getElem?_append_left (by rw [sched_len]; omega), List.getD, List.getElem?_eq_getElem (by rw [sched_len]; omega)]
    rfl
  have hB : ∀ j, (sched bl i).getD j 0 < 4294967296 := fun j => sched_lt bl i j
  obtain ⟨q16, h16⟩ : ∃ q, q = i - 16 := ⟨_, rfl⟩
  obtain ⟨q15, h15⟩ : ∃ q, q = i - 15 := ⟨_, rfl⟩
  obtain ⟨q7, h7⟩ : ∃ q, q = i - 7 := ⟨_, rfl⟩
  obtain ⟨q2, h2⟩ : ∃ q, q = i - 2 := ⟨_, rfl⟩
  obtain ⟨x16, g16, c16⟩ := hS q16 (by omega)
  obtain ⟨x15, g15, c15⟩ := hS q15 (by omega)
  obtain ⟨x7, g7, c7⟩ := hS q7 (by omega)
  obtain ⟨x2, g2, c2⟩ := hS q2 (by omega)
  have k16 := hB q16
  have k15 := hB q15
  have k7 := hB q7
  have k2 := hB q2
  rw [g16] at k16
  rw [g15] at k15
  rw [g7] at k7
  rw [g2] at k2
  have hx : nextW (sched bl i) i = (x16 + lsig0 x15 + x7 + lsig1 x2) % 4294967296 := by unfold nextW; rw [← h16, ← h15, ← h7, ← h2, g16, g15, g7, g2]
  have HX := Lib.hid hx
  have l16 : (q16 : Int) < 64 := by omega
  have l15 : (q15 : Int) < 64 := by omega
  have l7 : (q7 : Int) < 64 := by omega
  have l2 : (q2 : Int) < 64 := by omega
  have v16 : IntKind.i64.wrap ((i : Int) - 16) = (q16 : Int) := by rw [IntWalk.i64_in _ (by omega)]; omega
  have v15 : IntKind.i64.wrap ((i : Int) - 15) = (q15 : Int) := by rw [IntWalk.i64_in _ (by omega)]; omega
  have v7 : IntKind.i64.wrap ((i : Int) - 7) = (q7 : Int) := by rw [IntWalk.i64_in _ (by omega)]; omega
  have v2 : IntKind.i64.wrap ((i : Int) - 2) = (q2 : Int) := by rw [IntWalk.i64_in _ (by omega)]; omega
  have d16 : q16 ≠ i := by omega
  have d7 : q7 ≠ i := by omega
  have bi' : Blk wr.drew pW 107 (V32 (sched bl i ++ old.drop i)) := bi
  have hbi' := RBut.trans_ _ _ _ _ hbi (RBut.of_below (Below.refl _ _).drew)
  have e16 := c16 _ (RBel.refl_ _)
  have e7 := c7 _ (RBel.refl_ _)
  clear c16 c7 hS hB g16 g15 g7 g2 hx h16 h15 h7 h2 bi hbi
  refine wp_region_C [(0, true), (1, true), (2, true), (3, true), (4, true), (5, true), (6, true), (7, true), (8, false), (9, false)] RBel (by kernel_rfl) (by kernel_rfl) (by kernel_rfl) (by decide) RBel.refl_ RBel.trans_ (by intro d v c a w h; exact hP d v c a w h) ?_
  generalize wr.drew = wd at *
  repeat (first | (refine wpC_quiet (v := ?_) rfl (by rfl) ?_ ?_; rotate_left; (· (intro w' hw'; go_simp; try with_reducible rfl)); simp only [Act.put, List.setIfInBounds_toArray, List.set_cons_zero, List.set_cons_succ]) | (refine wpC_val (v := ?_) (RBel.refl_) rfl (by rfl) ?_ ?_; rotate_left; (· (go_simp; try with_reducible rfl)); simp only [Act.put, List.setIfInBounds_toArray, List.set_cons_zero, List.set_cons_succ]) | (refine wpC_skip rfl (by rfl) ?_; simp only [Act.put, List.setIfInBounds_toArray, List.set_cons_zero, List.set_cons_succ]) | (refine wpC_skip' (RBel.refl_) rfl (by rfl) ?_; simp only [Act.put, List.setIfInBounds_toArray, List.set_cons_zero, List.set_cons_succ]))
  refine wpC_nil ?_
  clear c15 c2
  go_wp2_with fail
  have e16' : ∀ w', RCell pW i wd.drew w' → w'.cell? ⟨pW, q16, none⟩ = some (.int .u32 (x16 : Int)) := fun w' hw' => (hw'.2 q16 d16).trans e16
  have e7' : ∀ w', RCell pW i wd.drew w' → w'.cell? ⟨pW, q7, none⟩ = some (.int .u32 (x7 : Int)) := fun w' hw' => (hw'.2 q7 d7).trans e7
  have bi'' : Blk wd.drew pW 107 (V32 (sched bl i ++ old.drop i)) := bi'
  have hbi'' := RBut.trans_ _ _ _ _ hbi' (RBut.of_below (Below.refl _ _).drew)
  clear e16 e7 d16 d7 bi' hbi' v15 v2
  refine wp_region_C [(0, true), (1, true), (3, true), (6, true), (7, true), (9, true), (10, true), (11, true), (12, true), (14, true), (16, true), (19, true), (20, true), (23, true), (24, true), (25, true), (26, true), (2, false), (4, false), (5, true), (8, true), (13, true), (15, false), (17, false), (18, false), (21, false), (22, false), (27, false), (28, false), (29, false)] (RCell pW i) (by kernel_rfl) (by kernel_rfl) (by kernel_rfl) (by decide) (RCell.refl_ _ _) (RCell.trans_ _ _) (by intro d v c a w h; exact hP d v c a w h) ?_
  generalize wd.drew = we at *
  have Y0 := lsig0_bits x15 k15
  have Y1 := lsig1_bits x2 k2
  have Y2 := sum4b x16 (lsig0 x15) x7 (lsig1 x2)
  rw [← HX.out] at Y2
  have e16'' := e16' we (RCell.refl_ _ _ _)
  repeat (first | (refine wpC_quiet (v := ?_) rfl (by rfl) ?_ ?_; rotate_left; (· (intro w' hw'; go_simp; try with_reducible rfl)); simp only [Act.put, List.setIfInBounds_toArray, List.set_cons_zero, List.set_cons_succ]) | (refine wpC_val (v := ?_) (RCell.refl_ _ _) rfl (by rfl) ?_ ?_; rotate_left; (· (go_simp; try with_reducible rfl)); simp only [Act.put, List.setIfInBounds_toArray, List.set_cons_zero, List.set_cons_succ]) | (refine wpC_skip rfl (by rfl) ?_; simp only [Act.put, List.setIfInBounds_toArray, List.set_cons_zero, List.set_cons_succ]) | (refine wpC_skip' (RCell.refl_ _ _) rfl (by rfl) ?_; simp only [Act.put, List.setIfInBounds_toArray, List.set_cons_zero, List.set_cons_succ]))
  (refine wpC_loud rfl (by rfl) ?_; intro K hK; go_simp)
  refine (rot_any x2 17 _ k2 (by omega) (by omega)).mono ?_
  rintro e w' ⟨rfl, rfl⟩
  (refine hK.out _ _ (RCell.refl_ _ _ _) ?_; clear hK K; try simp only [Act.put, List.setIfInBounds_toArray, List.set_cons_zero, List.set_cons_succ])
  (refine wpC_loud rfl (by rfl) ?_; intro K hK; go_simp)
  refine (rot_any x2 19 _ k2 (by omega) (by omega)).mono ?_
  rintro e w' ⟨rfl, rfl⟩
  (refine hK.out _ _ (RCell.refl_ _ _ _) ?_; clear hK K; try simp only [Act.put, List.setIfInBounds_toArray, List.set_cons_zero, List.set_cons_succ])
  repeat (first | (refine wpC_quiet (v := ?_) rfl (by rfl) ?_ ?_; rotate_left; (· (intro w' hw'; go_simp; try with_reducible rfl)); simp only [Act.put, List.setIfInBounds_toArray, List.set_cons_zero, List.set_cons_succ]) | (refine wpC_val (v := ?_) (RCell.refl_ _ _) rfl (by rfl) ?_ ?_; rotate_left; (· (go_simp; try with_reducible rfl)); simp only [Act.put, List.setIfInBounds_toArray, List.set_cons_zero, List.set_cons_succ]) | (refine wpC_skip rfl (by rfl) ?_; simp only [Act.put, List.setIfInBounds_toArray, List.set_cons_zero, List.set_cons_succ]) | (refine wpC_skip' (RCell.refl_ _ _) rfl (by rfl) ?_; simp only [Act.put, List.setIfInBounds_toArray, List.set_cons_zero, List.set_cons_succ]))
  (refine wpC_loud rfl (by rfl) ?_; intro K hK; go_simp)
  refine (rot_any x15 7 _ k15 (by omega) (by omega)).mono ?_
  rintro e w' ⟨rfl, rfl⟩
  (refine hK.out _ _ (RCell.refl_ _ _ _) ?_; clear hK K; try simp only [Act.put, List.setIfInBounds_toArray, List.set_cons_zero, List.set_cons_succ])
  (refine wpC_loud rfl (by rfl) ?_; intro K hK; go_simp)
  refine (rot_any x15 18 _ k15 (by omega) (by omega)).mono ?_
  rintro e w' ⟨rfl, rfl⟩
  (refine hK.out _ _ (RCell.refl_ _ _ _) ?_; clear hK K; try simp only [Act.put, List.setIfInBounds_toArray, List.set_cons_zero, List.set_cons_succ])
  repeat (first | (refine wpC_quiet (v := ?_) rfl (by rfl) ?_ ?_; rotate_left; (· (intro w' hw'; go_simp; try with_reducible rfl)); simp only [Act.put, List.setIfInBounds_toArray, List.set_cons_zero, List.set_cons_succ]) | (refine wpC_val (v := ?_) (RCell.refl_ _ _) rfl (by rfl) ?_ ?_; rotate_left; (· (go_simp; try with_reducible rfl)); simp only [Act.put, List.setIfInBounds_toArray, List.set_cons_zero, List.set_cons_succ]) | (refine wpC_skip rfl (by rfl) ?_; simp only [Act.put, List.setIfInBounds_toArray, List.set_cons_zero, List.set_cons_succ]) | (refine wpC_skip' (RCell.refl_ _ _) rfl (by rfl) ?_; simp only [Act.put, List.setIfInBounds_toArray, List.set_cons_zero, List.set_cons_succ]))
  have hol : i < old.length := by rw [hold'.out]; omega
  have ce : we.cell? ⟨pW, i, none⟩ = (V32 (sched bl i ++ old.drop i))[i]? := bi''.cell i
  rw [List.getElem?_eq_getElem (by rw [V32_len]; simp [sched_len]; omega)] at ce
  have fe := bi''.fz i
  have bj := bi''.set_ i (.int .u32 ((nextW (sched bl i) i : Nat) : Int))
  rw [old_set _ old i _ (sched_len bl i) hol] at bj
  have hbj := RBut.trans_ _ _ _ _ hbi'' (RBut.setC we pW i (.int .u32 ((nextW (sched bl i) i : Nat) : Int)))
  have rc := RCell.set_ bi'' (.int .u32 ((nextW (sched bl i) i : Nat) : Int)) (i := i)
  have BJ := Lib.hid bj
  have HBJ := Lib.hid hbj
  have RC := Lib.hid rc
  clear bj hbj rc
  generalize (V32 (sched bl i ++ old.drop i))[i]'_ = zz at ce
  (refine wpC_loud rfl (by rfl) ?_; intro K hK; go_simp)
  (refine hK.out _ _ (RC.out) ?_; clear hK K; try simp only [Act.put, List.setIfInBounds_toArray, List.set_cons_zero, List.set_cons_succ])
  refine wpC_nil ?_
  clear ce fe Y0 Y1 Y2
  go_wp2_with fail
  exact hQ _ _ _ _ _ _ _ _ _ _ _ _ _ _ _ _ _ _ _ _ _ _ _ _ _ _ _ _ _ _ _ _ _ _ _ _ _ _ _ _ _ _ _ _ (by rw [sched_hi bl i hi16]; exact BJ.out) HBJ.out
end Go.Proofs.Ytdopgooglicaiaa
/- A round of an inner loop of capstanref2.Sum. -/
set_option linter.unusedSimpArgs false
set_option linter.unusedVariables false
namespace Go.Proofs.Ytdopgooglicaiaa
open Go.RowKit
set_option maxRecDepth 100000
set_option maxRecDepth 1000000 in
set_option maxHeartbeats 8000000 in
theorem refS6 (s0 s1 s2 s4 s5 s6 s7 s9 s10 s11 s12 s13 s14 s17 s18 s19 s20 s21 s22 s23 s24 s25 s26 s27 s28 s29 s30 s31 s32 s33 s34 s35 s36 s37 s38 s39 s40 s41 s42 s43 s44 s45 s46 s47 s48 s49 s50 s51 s52 s53 s54 s55 s56 s57 s58 s59 s60 s61 s62 s63 s64 s65 s66 s67 s68 s69 s70 s71 s72 s73 s74 s75 s76 s77 s78 s79 s80 s81 s82 s83 s84 s85 s86 s87 s88 s89 s90 s91 s92 s93 s94 s95 s96 s97 s98 s99 s100 s101 s102 s103 s104 s105 s106 s107 s108 s109 s110 s111 s112 s113 s114 s115 s116 s117 s118 s119 s120 s121 s122 s123 s124 s125 s126 s127 s128 s129 s130 s131 s132 s133 s134 s135 s136 s137 s138 s139 s140 s141 s142 s143 s144 s145 s146 s147 s148 s149 s150 s151 s152 s153 s154 s155 s156 s157 s158 s159 s160 s161 s162 s163 s164 s165 s166 s167 s168 s169 s170 s171 s172 s173 s174 s175 s176 s177 s178 s179 s180 s181 s182 s183 s184 s185 s186 s187 s188 s189 s190 s191 s192 s193 s194 s195 s196 s197 s198 s199 s200 s201 s202 s203 s204 s205 s206 s207 s208 s209 s210 s211 s212 s213 s214 s215 s216 s217 s218 s219 s220 s221 s222 s223 s224 s225 s226 s227 s228 s229 s230 s231 s232 s233 s234 s235 s236 s237 s238 s239 s240 s241 s242 s243 s244 s245 s246 s247 s248 s249 s250 s251 s252 s253 s254 s255 s256 s257 s258 s259 s260 s261 s262 s263 s264 s265 s266 s267 s268 s269 s270 s271 s272 s273 s274 s275 s276 s277 : Value)
    (pK pW pA i kk x : Nat) (ks ws : List Nat) (u : S8) (wr : World) (Q : Exit → Act → World → Prop) (hP : ∀ (d : Option Tmp) (v : Value) c a w, Q (.panic c) (a.put d v) w → Q (.panic c) a w)
    (hlt : i < 64) (hoki : u.ok) (hkk : kk < 4294967296) (hww : x < 4294967296) (gk : ks[i]? = some kk) (gw : ws[i]? = some x) (bi : Blk wr pA 109 (V32 u.list)) (v6i : Blk wr pK 107 (V32 ks)) (v5i : Blk wr pW 107 (V32 ws))
    (hQ : ∀ (n142 n143 n144 n145 n146 n147 n148 n149 n150 n151 n152 n153 n154 n155 n156 n157 n158 n159 n160 n161 n162 n163 n164 n165 n166 n167 n168 n169 n170 n171 n172 n173 n174 n175 n176 n177 n178 n179 n180 n181 n182 n183 n184 n185 n186 n187 n188 n189 n190 n191 n192 n193 n194 n195 n196 n197 n198 n199 n200 n201 n202 n203 n204 n205 n206 n207 n208 n209 n210 n211 n212 n213 n214 n215 n216 n217 n218 n219 n220 n221 n222 n223 n224 n225 n226 n17 n18 n19 : Value) (w' : World), Blk w' pA 109 (V32 (rnd u kk x).list) → RBut (some pA) wr w' → Q .normal ⟨#[s0, s1, s2, (.pointer (some ⟨pK, 0, none⟩)), s4, s5, s6, s7, (.pointer (some ⟨pW, 0, none⟩)), s9, s10, s11, s12, s13, s14, (.pointer (some ⟨pA, 0, none⟩)), (.int .i64 ((i : Int) + 1)), n17, n18, n19, s20, s21, s22, s23, s24, s25, s26, s27, s28, s29, s30, s31, s32, s33, s34, s35, s36, s37, s38, s39, s40, s41, s42, s43, s44, s45, s46, s47, s48, s49, s50, s51, s52, s53, s54, s55, s56, s57, s58, s59, s60, s61, s62, s63, s64, s65, s66, s67, s68, s69, s70, s71, s72, s73, s74, s75, s76, s77, s78, s79, s80, s81, s82, s83, s84, s85, s86, s87, s88, s89, s90, s91, s92, s93, s94, s95, s96, s97, s98, s99, s100, s101, s102, s103, s104, s105, s106, s107, s108, s109, s110, s111, s112, s113, s114, s115, s116, s117, s118, s119, s120, s121, s122, s123, s124, s125, s126, s127, s128, s129, s130, s131, s132, s133, s134, s135, s136, s137, s138, s139, s140, s141, n142, n143, n144, n145, n146, n147, n148, n149, n150, n151, n152, n153, n154, n155, n156, n157, n158, n159, n160, n161, n162, n163, n164, n165, n166, n167, n168, n169, n170, n171, n172, n173, n174, n175, n176, n177, n178, n179, n180, n181, n182, n183, n184, n185, n186, n187, n188, n189, n190, n191, n192, n193, n194, n195, n196, n197, n198, n199, n200, n201, n202, n203, n204, n205, n206, n207, n208, n209, n210, n211, n212, n213, n214, n215, n216, n217, n218, n219, n220, n221, n222, n223, n224, n225, n226, s227, s228, s229, s230, s231, s232, s233, s234, s235, s236, s237, s238, s239, s240, s241, s242, s243, s244, s245, s246, s247, s248, s249, s250, s251, s252, s253, s254, s255, s256, s257, s258, s259, s260, s261, s262, s263, s264, s265, s266, s267, s268, s269, s270, s271, s272, s273, s274, s275, s276, s277], []⟩ w') :
    Code.wp Try.prog (refBody 5) Q ⟨#[s0, s1, s2, (.pointer (some ⟨pK, 0, none⟩)), s4, s5, s6, s7, (.pointer (some ⟨pW, 0, none⟩)), s9, s10, s11, s12, s13, s14, (.pointer (some ⟨pA, 0, none⟩)), (.int .i64 (i : Int)), s17, s18, s19, s20, s21, s22, s23, s24, s25, s26, s27, s28, s29, s30, s31, s32, s33, s34, s35, s36, s37, s38, s39, s40, s41, s42, s43, s44, s45, s46, s47, s48, s49, s50, s51, s52, s53, s54, s55, s56, s57, s58, s59, s60, s61, s62, s63, s64, s65, s66, s67, s68, s69, s70, s71, s72, s73, s74, s75, s76, s77, s78, s79, s80, s81, s82, s83, s84, s85, s86, s87, s88, s89, s90, s91, s92, s93, s94, s95, s96, s97, s98, s99, s100, s101, s102, s103, s104, s105, s106, s107, s108, s109, s110, s111, s112, s113, s114, s115, s116, s117, s118, s119, s120, s121, s122, s123, s124, s125, s126, s127, s128, s129, s130, s131, s132, s133, s134, s135, s136, s137, s138, s139, s140, s141, s142, s143, s144, s145, s146, s147, s148, s149, s150, s151, s152, s153, s154, s155, s156, s157, s158, s159, s160, s161, s162, s163, s164, s165, s166, s167, s168, s169, s170, s171, s172, s173, s174, s175, s176, s177, s178, s179, s180, s181, s182, s183, s184, s185, s186, s187, s188, s189, s190, s191, s192, s193, s194, s195, s196, s197, s198, s199, s200, s201, s202, s203, s204, s205, s206, s207, s208, s209, s210, s211, s212, s213, s214, s215, s216, s217, s218, s219, s220, s221, s222, s223, s224, s225, s226, s227, s228, s229, s230, s231, s232, s233, s234, s235, s236, s237, s238, s239, s240, s241, s242, s243, s244, s245, s246, s247, s248, s249, s250, s251, s252, s253, s254, s255, s256, s257, s258, s259, s260, s261, s262, s263, s264, s265, s266, s267, s268, s269, s270, s271, s272, s273, s274, s275, s276, s277], []⟩ wr := by
  conv => arg 2; whnf
  have hbi : RBut (some pA) wr wr := RBut.refl_ _ _
  have t1 : (i : Int) < 64 := by omega
  obtain ⟨ua, ub, uc, ud, ue, uf, ug, uh⟩ := u
  obtain ⟨ka, kb, kc, kd, ke, kf, kg, kh⟩ := hoki
  simp only [S8.list] at bi
  dsimp only at ka kb kc kd ke kf kg kh
  have HGK := Lib.hid gk
  have HGW := Lib.hid gw
  have e4 : wr.cell? ⟨pA, 4, none⟩ = some (.int .u32 (ue : Int)) := Blk.at_ bi 4 rfl wr (RBel.refl_ _)
  clear gk gw
  go_wp2_with fail
  clear e4
  have c5 : ∀ w', RBel wr.drew w' → w'.cell? ⟨pA, 5, none⟩ = some (.int .u32 (uf : Int)) := Blk.at_ (w := wr.drew) bi 5 rfl
  have c6 : ∀ w', RBel wr.drew w' → w'.cell? ⟨pA, 6, none⟩ = some (.int .u32 (ug : Int)) := Blk.at_ (w := wr.drew) bi 6 rfl
  have c7 : ∀ w', RBel wr.drew w' → w'.cell? ⟨pA, 7, none⟩ = some (.int .u32 (uh : Int)) := Blk.at_ (w := wr.drew) bi 7 rfl
  have ck : ∀ w', RBel wr.drew w' → w'.cell? ⟨pK, i, none⟩ = some (.int .u32 (kk : Int)) := Blk.at_ (w := wr.drew) v6i i (V32_get HGK.out)
  have cx : ∀ w', RBel wr.drew w' → w'.cell? ⟨pW, i, none⟩ = some (.int .u32 (x : Int)) := Blk.at_ (w := wr.drew) v5i i (V32_get HGW.out)
  have Y0 := usig1_bits ue ke
  have Y1 := chs_bits ue uf ug ke kf kg
  have sg : IntKind.u32.signed = false := rfl
  have Y2 := sum5 uh (usig1 ue) (chs ue uf ug) kk x
  obtain ⟨X, hX⟩ : ∃ X, X = (uh + usig1 ue + chs ue uf ug + kk + x) % 4294967296 := ⟨_, rfl⟩
  have hXl : X < 4294967296 := by rw [hX]; exact Nat.mod_lt _ (by decide)
  rw [← hX] at Y2
  have HX := Lib.hid hX
  clear hX
  refine wp_region_C [(0, true), (1, true), (2, true), (4, true), (7, true), (11, true), (12, true), (13, true), (14, true), (15, true), (16, true), (17, true), (18, true), (19, true), (20, true), (22, true), (23, true), (24, true), (26, true), (27, true), (28, true), (3, false), (5, false), (6, true), (8, false), (9, false), (10, false), (21, false), (25, false), (29, false), (30, false)] RBel (by kernel_rfl) (by kernel_rfl) (by kernel_rfl) (by decide) RBel.refl_ RBel.trans_ (by intro d v c a w h; exact hP d v c a w h) ?_
  repeat (first | (refine wpC_quiet (v := ?_) rfl (by rfl) ?_ ?_; rotate_left; (· (intro w' hw'; go_simp; try with_reducible rfl)); simp only [Act.put, List.setIfInBounds_toArray, List.set_cons_zero, List.set_cons_succ]) | (refine wpC_val (v := ?_) (RBel.refl_) rfl (by rfl) ?_ ?_; rotate_left; (· (go_simp; try with_reducible rfl)); simp only [Act.put, List.setIfInBounds_toArray, List.set_cons_zero, List.set_cons_succ]) | (refine wpC_skip rfl (by rfl) ?_; simp only [Act.put, List.setIfInBounds_toArray, List.set_cons_zero, List.set_cons_succ]) | (refine wpC_skip' (RBel.refl_) rfl (by rfl) ?_; simp only [Act.put, List.setIfInBounds_toArray, List.set_cons_zero, List.set_cons_succ]))
  (refine wpC_loud rfl (by rfl) ?_; intro K hK; go_simp)
  refine (rot_any ue 6 _ ke (by omega) (by omega)).mono ?_
  rintro e w' ⟨rfl, rfl⟩
  (refine hK.out _ _ (RBel.refl_ _) ?_; clear hK K; try simp only [Act.put, List.setIfInBounds_toArray, List.set_cons_zero, List.set_cons_succ])
  (refine wpC_loud rfl (by rfl) ?_; intro K hK; go_simp)
  refine (rot_any ue 11 _ ke (by omega) (by omega)).mono ?_
  rintro e w' ⟨rfl, rfl⟩
  (refine hK.out _ _ (RBel.refl_ _) ?_; clear hK K; try simp only [Act.put, List.setIfInBounds_toArray, List.set_cons_zero, List.set_cons_succ])
  repeat (first | (refine wpC_quiet (v := ?_) rfl (by rfl) ?_ ?_; rotate_left; (· (intro w' hw'; go_simp; try with_reducible rfl)); simp only [Act.put, List.setIfInBounds_toArray, List.set_cons_zero, List.set_cons_succ]) | (refine wpC_val (v := ?_) (RBel.refl_) rfl (by rfl) ?_ ?_; rotate_left; (· (go_simp; try with_reducible rfl)); simp only [Act.put, List.setIfInBounds_toArray, List.set_cons_zero, List.set_cons_succ]) | (refine wpC_skip rfl (by rfl) ?_; simp only [Act.put, List.setIfInBounds_toArray, List.set_cons_zero, List.set_cons_succ]) | (refine wpC_skip' (RBel.refl_) rfl (by rfl) ?_; simp only [Act.put, List.setIfInBounds_toArray, List.set_cons_zero, List.set_cons_succ]))
  (refine wpC_loud rfl (by rfl) ?_; intro K hK; go_simp)
  refine (rot_any ue 25 _ ke (by omega) (by omega)).mono ?_
  rintro e w' ⟨rfl, rfl⟩
  (refine hK.out _ _ (RBel.refl_ _) ?_; clear hK K; try simp only [Act.put, List.setIfInBounds_toArray, List.set_cons_zero, List.set_cons_succ])
  repeat (first | (refine wpC_quiet (v := ?_) rfl (by rfl) ?_ ?_; rotate_left; (· (intro w' hw'; go_simp; try with_reducible rfl)); simp only [Act.put, List.setIfInBounds_toArray, List.set_cons_zero, List.set_cons_succ]) | (refine wpC_val (v := ?_) (RBel.refl_) rfl (by rfl) ?_ ?_; rotate_left; (· (go_simp; try with_reducible rfl)); simp only [Act.put, List.setIfInBounds_toArray, List.set_cons_zero, List.set_cons_succ]) | (refine wpC_skip rfl (by rfl) ?_; simp only [Act.put, List.setIfInBounds_toArray, List.set_cons_zero, List.set_cons_succ]) | (refine wpC_skip' (RBel.refl_) rfl (by rfl) ?_; simp only [Act.put, List.setIfInBounds_toArray, List.set_cons_zero, List.set_cons_succ]))
  refine wpC_nil ?_
  clear c5 c6 c7 ck cx Y0 Y1 Y2 sg
  go_wp2_with fail
  have c0 : ∀ w', RBel wr.drew.drew w' → w'.cell? ⟨pA, 0, none⟩ = some (.int .u32 (ua : Int)) := Blk.at_ (w := wr.drew.drew) bi 0 rfl
  have c1 : ∀ w', RBel wr.drew.drew w' → w'.cell? ⟨pA, 1, none⟩ = some (.int .u32 (ub : Int)) := Blk.at_ (w := wr.drew.drew) bi 1 rfl
  have c2 : ∀ w', RBel wr.drew.drew w' → w'.cell? ⟨pA, 2, none⟩ = some (.int .u32 (uc : Int)) := Blk.at_ (w := wr.drew.drew) bi 2 rfl
  have Y0 := usig0_bits ua ka
  have Y1 := maj_bits ua ub uc ka kb kc
  have Y2 := sum2 (usig0 ua) (maj ua ub uc)
  obtain ⟨Y, hY⟩ : ∃ Y, Y = (usig0 ua + maj ua ub uc) % 4294967296 := ⟨_, rfl⟩
  have hYl : Y < 4294967296 := by rw [hY]; exact Nat.mod_lt _ (by decide)
  rw [← hY] at Y2
  have HY := Lib.hid hY
  clear hY
  refine wp_region_C [(0, true), (1, true), (3, true), (4, true), (7, true), (8, true), (11, true), (12, true), (13, true), (14, true), (15, true), (16, true), (17, true), (18, true), (19, true), (20, true), (21, true), (22, true), (23, true), (24, true), (25, true), (26, true), (27, true), (2, false), (5, false), (6, true), (9, false), (10, false), (28, false), (29, false)] RBel (by kernel_rfl) (by kernel_rfl) (by kernel_rfl) (by decide) RBel.refl_ RBel.trans_ (by intro d v c a w h; exact hP d v c a w h) ?_
  repeat (first | (refine wpC_quiet (v := ?_) rfl (by rfl) ?_ ?_; rotate_left; (· (intro w' hw'; go_simp; try with_reducible rfl)); simp only [Act.put, List.setIfInBounds_toArray, List.set_cons_zero, List.set_cons_succ]) | (refine wpC_val (v := ?_) (RBel.refl_) rfl (by rfl) ?_ ?_; rotate_left; (· (go_simp; try with_reducible rfl)); simp only [Act.put, List.setIfInBounds_toArray, List.set_cons_zero, List.set_cons_succ]) | (refine wpC_skip rfl (by rfl) ?_; simp only [Act.put, List.setIfInBounds_toArray, List.set_cons_zero, List.set_cons_succ]) | (refine wpC_skip' (RBel.refl_) rfl (by rfl) ?_; simp only [Act.put, List.setIfInBounds_toArray, List.set_cons_zero, List.set_cons_succ]))
  (refine wpC_loud rfl (by rfl) ?_; intro K hK; go_simp)
  refine (rot_any ua 2 _ ka (by omega) (by omega)).mono ?_
  rintro e w' ⟨rfl, rfl⟩
  (refine hK.out _ _ (RBel.refl_ _) ?_; clear hK K; try simp only [Act.put, List.setIfInBounds_toArray, List.set_cons_zero, List.set_cons_succ])
  (refine wpC_loud rfl (by rfl) ?_; intro K hK; go_simp)
  refine (rot_any ua 13 _ ka (by omega) (by omega)).mono ?_
  rintro e w' ⟨rfl, rfl⟩
  (refine hK.out _ _ (RBel.refl_ _) ?_; clear hK K; try simp only [Act.put, List.setIfInBounds_toArray, List.set_cons_zero, List.set_cons_succ])
  repeat (first | (refine wpC_quiet (v := ?_) rfl (by rfl) ?_ ?_; rotate_left; (· (intro w' hw'; go_simp; try with_reducible rfl)); simp only [Act.put, List.setIfInBounds_toArray, List.set_cons_zero, List.set_cons_succ]) | (refine wpC_val (v := ?_) (RBel.refl_) rfl (by rfl) ?_ ?_; rotate_left; (· (go_simp; try with_reducible rfl)); simp only [Act.put, List.setIfInBounds_toArray, List.set_cons_zero, List.set_cons_succ]) | (refine wpC_skip rfl (by rfl) ?_; simp only [Act.put, List.setIfInBounds_toArray, List.set_cons_zero, List.set_cons_succ]) | (refine wpC_skip' (RBel.refl_) rfl (by rfl) ?_; simp only [Act.put, List.setIfInBounds_toArray, List.set_cons_zero, List.set_cons_succ]))
  (refine wpC_loud rfl (by rfl) ?_; intro K hK; go_simp)
  refine (rot_any ua 22 _ ka (by omega) (by omega)).mono ?_
  rintro e w' ⟨rfl, rfl⟩
  (refine hK.out _ _ (RBel.refl_ _) ?_; clear hK K; try simp only [Act.put, List.setIfInBounds_toArray, List.set_cons_zero, List.set_cons_succ])
  repeat (first | (refine wpC_quiet (v := ?_) rfl (by rfl) ?_ ?_; rotate_left; (· (intro w' hw'; go_simp; try with_reducible rfl)); simp only [Act.put, List.setIfInBounds_toArray, List.set_cons_zero, List.set_cons_succ]) | (refine wpC_val (v := ?_) (RBel.refl_) rfl (by rfl) ?_ ?_; rotate_left; (· (go_simp; try with_reducible rfl)); simp only [Act.put, List.setIfInBounds_toArray, List.set_cons_zero, List.set_cons_succ]) | (refine wpC_skip rfl (by rfl) ?_; simp only [Act.put, List.setIfInBounds_toArray, List.set_cons_zero, List.set_cons_succ]) | (refine wpC_skip' (RBel.refl_) rfl (by rfl) ?_; simp only [Act.put, List.setIfInBounds_toArray, List.set_cons_zero, List.set_cons_succ]))
  refine wpC_nil ?_
  clear c0 c1 c2 Y0 Y1 Y2
  have bi3 : Blk wr.drew.drew pA 109 (V32 [ua, ub, uc, ud, ue, uf, ug, uh]) := bi
  have hbi3 : RBut (some pA) wr wr.drew.drew := RBut.trans_ _ _ _ _ hbi (RBut.of_below (Below.refl _ _).drew.drew)
  generalize wr.drew.drew = wt at *
  have d0 := bi3.cell 0
  have d1 := bi3.cell 1
  have d2 := bi3.cell 2
  have d3 := bi3.cell 3
  have d4 := bi3.cell 4
  have d5 := bi3.cell 5
  have d6 := bi3.cell 6
  have d7 := bi3.cell 7
  have f0 := bi3.fz 0
  have f1 := bi3.fz 1
  have f2 := bi3.fz 2
  have f3 := bi3.fz 3
  have f4 := bi3.fz 4
  have f5 := bi3.fz 5
  have f6 := bi3.fz 6
  have f7 := bi3.fz 7
  simp only [V32, List.map_cons, List.getElem?_cons_zero, List.getElem?_cons_succ] at d0 d1 d2 d3 d4 d5 d6 d7
  obtain ⟨Z, hZ⟩ : ∃ Z, Z = (X + Y) % 4294967296 := ⟨_, rfl⟩
  obtain ⟨Z2, hZ2⟩ : ∃ Z2, Z2 = (ud + X) % 4294967296 := ⟨_, rfl⟩
  have hs : rnd ⟨ua, ub, uc, ud, ue, uf, ug, uh⟩ kk x = ⟨Z, ua, ub, uc, Z2, ue, uf, ug⟩ := by
    rw [hZ, hZ2, HX.out, HY.out]
    unfold rnd
    simp only [S8.mk.injEq, and_true, true_and]
    omega
  have z1 : ((X : Int) + (Y : Int)) % 4294967296 = (Z : Int) := by omega
  have z2 : ((ud : Int) + (X : Int)) % 4294967296 = (Z2 : Int) := by omega
  have HS := Lib.hid hs
  clear hZ hZ2 hs
  go_wp2_with fail
  have st := store8 bi3 (.int .u32 (Z : Int)) (.int .u32 (ua : Int)) (.int .u32 (ub : Int)) (.int .u32 (uc : Int)) (.int .u32 (Z2 : Int)) (.int .u32 (ue : Int)) (.int .u32 (uf : Int)) (.int .u32 (ug : Int))
  exact hQ _ _ _ _ _ _ _ _ _ _ _ _ _ _ _ _ _ _ _ _ _ _ _ _ _ _ _ _ _ _ _ _ _ _ _ _ _ _ _ _ _ _ _ _ _ _ _ _ _ _ _ _ _ _ _ _ _ _ _ _ _ _ _ _ _ _ _ _ _ _ _ _ _ _ _ _ _ _ _ _ _ _ _ _ _ _ _ _ _ (by rw [HS.out]; exact st.1) (RBut.trans_ _ _ _ _ hbi3 st.2)
end Go.Proofs.Ytdopgooglicaiaa
