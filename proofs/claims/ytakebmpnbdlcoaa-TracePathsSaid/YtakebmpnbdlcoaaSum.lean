/- The walk of sha.Sum. -/
import Derived.Test.YtakebmpnbdlcoaaShaAdd
set_option linter.unusedSimpArgs false
set_option linter.unusedVariables false
namespace Go.Proofs.Ytakebmpnbdlcoaa
open Go.RowKit
set_option maxRecDepth 100000
theorem S8.bytes_len (s : S8) : s.bytes.length = 32 := by simp [S8.bytes, S8.list, be4]
theorem S8.byte_at (s : S8) (i : Nat) (h : i < 32) : s.bytes[i]? = some (UInt8.ofNat (s.list.getD (i / 4) 0 / 2 ^ (24 - 8 * (i % 4)))) := by
  match i, h with
  | 0, _ => rfl
  | 1, _ => rfl
  | 2, _ => rfl
  | 3, _ => simp [S8.bytes, S8.list, be4]
  | 4, _ => rfl
  | 5, _ => rfl
  | 6, _ => rfl
  | 7, _ => simp [S8.bytes, S8.list, be4]
  | 8, _ => rfl
  | 9, _ => rfl
  | 10, _ => rfl
  | 11, _ => simp [S8.bytes, S8.list, be4]
  | 12, _ => rfl
  | 13, _ => rfl
  | 14, _ => rfl
  | 15, _ => simp [S8.bytes, S8.list, be4]
  | 16, _ => rfl
  | 17, _ => rfl
  | 18, _ => rfl
  | 19, _ => simp [S8.bytes, S8.list, be4]
  | 20, _ => rfl
  | 21, _ => rfl
  | 22, _ => rfl
  | 23, _ => simp [S8.bytes, S8.list, be4]
  | 24, _ => rfl
  | 25, _ => rfl
  | 26, _ => rfl
  | 27, _ => simp [S8.bytes, S8.list, be4]
  | 28, _ => rfl
  | 29, _ => rfl
  | 30, _ => rfl
  | 31, _ => simp [S8.bytes, S8.list, be4]
  | n + 32, h => exact absurd h (by omega)
theorem be8_at (n i : Nat) (h : i < 8) : (be8 n)[i]? = some (UInt8.ofNat (n / 2 ^ (56 - 8 * i))) := by
  match i, h with
  | 0, _ => rfl
  | 1, _ => rfl
  | 2, _ => rfl
  | 3, _ => rfl
  | 4, _ => rfl
  | 5, _ => rfl
  | 6, _ => rfl
  | 7, _ => simp [be8]
  | n + 8, h => exact absurd h (by omega)
theorem shaBegun_ok : shaBegun.ok := by unfold S8.ok; decide
theorem run_ok (l : List UInt8) : ∀ n, (run shaBegun l n).ok
  | 0 => shaBegun_ok
  | n + 1 => addS_ok _ _
theorem u8_ofNat (x : Nat) : ((UInt8.ofNat x).toNat : Int) = (x : Int) % 256 := by rw [UInt8.toNat_ofNat']; omega
/-- what is padded ahead of the length -/
def padA (b : List UInt8) (k : Nat) : List UInt8 := b ++ [128] ++ List.replicate k 0
theorem padA_len (b : List UInt8) (k : Nat) : (padA b k).length = b.length + 1 + k := by simp [padA]; omega
theorem padA_snoc (b : List UInt8) (k : Nat) : padA b k ++ [0] = padA b (k + 1) := by simp [padA, List.replicate_succ']
theorem pad_eq (b : List UInt8) : pad b = padA b (padZ b.length) ++ be8 (8 * b.length) := rfl
theorem fill8 (l : List UInt8) (k i : Nat) (x : UInt8) (hl : l.length = i) (hk : 0 < k) : (B8 (l ++ List.replicate k 0)).set i (.int .u8 (x.toNat : Int)) = B8 (l ++ [x] ++ List.replicate (k - 1) 0) := by
  obtain ⟨k, rfl⟩ : ∃ j, k = j + 1 := ⟨k - 1, by omega⟩
  rw [B8, List.map_append, List.set_append_right _ _ (by simp [hl]), List.length_map, hl, Nat.sub_self, List.replicate_succ, List.map_cons, List.set_cons_zero]
  simp [B8, b8]
set_option maxRecDepth 100000 in
set_option maxHeartbeats 2000000 in
theorem sum_any (A : Option Addr) (n c : Nat) (bs : List UInt8) (w : World) (hs : Sl w 1 A n (B8 bs)) (hn : n ≤ 1099511627776) :
    Calls Try.prog 42 #[.slice A n c] w fun e w' => e = .returned (hv (shaS bs)) ∧ Below w.heap.size w w' := by
  have HL := Lib.hid hs.len8
  have b2 : Blk (w.alloc (.cells #[.int .u8 0, .int .u8 0, .int .u8 0, .int .u8 0, .int .u8 0, .int .u8 0, .int .u8 0, .int .u8 0, .int .u8 0, .int .u8 0, .int .u8 0, .int .u8 0, .int .u8 0, .int .u8 0, .int .u8 0, .int .u8 0, .int .u8 0, .int .u8 0, .int .u8 0, .int .u8 0, .int .u8 0, .int .u8 0, .int .u8 0, .int .u8 0, .int .u8 0, .int .u8 0, .int .u8 0, .int .u8 0, .int .u8 0, .int .u8 0, .int .u8 0, .int .u8 0] 27)) w.heap.size 27 (B8 (List.replicate 32 0)) := Blk.new w _ _
  have hb0 : Below w.heap.size w (w.alloc (.cells #[.int .u8 0, .int .u8 0, .int .u8 0, .int .u8 0, .int .u8 0, .int .u8 0, .int .u8 0, .int .u8 0, .int .u8 0, .int .u8 0, .int .u8 0, .int .u8 0, .int .u8 0, .int .u8 0, .int .u8 0, .int .u8 0, .int .u8 0, .int .u8 0, .int .u8 0, .int .u8 0, .int .u8 0, .int .u8 0, .int .u8 0, .int .u8 0, .int .u8 0, .int .u8 0, .int .u8 0, .int .u8 0, .int .u8 0, .int .u8 0, .int .u8 0, .int .u8 0] 27)) := (Below.refl _ _).alloc (Nat.le_refl _) _
  go_enter Try.func42, Try.ntmps42
  go_wp2_with fail
  generalize w.alloc (.cells #[.int .u8 0, .int .u8 0, .int .u8 0, .int .u8 0, .int .u8 0, .int .u8 0, .int .u8 0, .int .u8 0, .int .u8 0, .int .u8 0, .int .u8 0, .int .u8 0, .int .u8 0, .int .u8 0, .int .u8 0, .int .u8 0, .int .u8 0, .int .u8 0, .int .u8 0, .int .u8 0, .int .u8 0, .int .u8 0, .int .u8 0, .int .u8 0, .int .u8 0, .int .u8 0, .int .u8 0, .int .u8 0, .int .u8 0, .int .u8 0, .int .u8 0, .int .u8 0] 27) = W at *
  generalize hN : w.heap.size = N at *
  have HN := Lib.hid hN
  clear hN
  have hNW := b2.lt
  refine (clone_B A n c (B8 bs) W (hs.below hb0 (Nat.le_of_eq HN.out)) (B8_one _) (by omega)).mono ?_
  rintro e w1 ⟨A1, n1, c1, rfl, ho1, hb1⟩
  have hn1 : n1 = n := by rw [ho1.len8, HL.out]
  subst hn1
  have hW1 : W.heap.size ≤ w1.heap.size := hb1.size
  go_wp2_with (first
    | (at_builtin
       refine wpl_push8 _ _ _ elB rfl rfl rfl ho1 rfl 128 rfl (by omega) (by omega) ?_
       intro A2 c2 w2 ho2 hb2 _ _))
  have hbA : Below N w W := hb0
  have ho2' : Own w2 W.heap.size 5 1 A2 (n1 + 1) c2 (B8 (padA bs 0)) := by simpa [padA] using ho2
  have hbB : Below W.heap.size W w2 := hb1.trans hb2
  clear ho1 ho2 hb1 hb2 hs
  go_loopw [4] (fun v wr => ∃ (A' : Option Addr) (c' k : Nat), k ≤ padZ n1 ∧ v = .slice A' (n1 + 1 + k) c' ∧ Own wr W.heap.size 5 1 A' (n1 + 1 + k) c' (B8 (padA bs k)) ∧ Below W.heap.size W wr) (fun v _ => n1 + 65 - (match v with | .slice _ m _ => m | _ => 0))
  case atStart => exact ⟨A2, c2, 0, Nat.zero_le _, rfl, ho2', hbB⟩
  case round =>
    clear ho2' hbB
    obtain ⟨A', c', k, hk, rfl, ho, hb⟩ := hrel
    have hz : padZ n1 < 64 := by unfold padZ; omega
    have hsz := hb.size
    by_cases hlt : k < padZ n1
    · have t1 : ((n1 : Int) + 1 + (k : Int)) % 64 = 56 → False := by unfold padZ at hlt; omega
      have t2 : (((n1 : Int) + 1 + (k : Int)) % 64 == 56) = false := by simpa using t1
      clear t1
      go_wp2_with (first
        | (at_builtin
           refine wpl_push8 _ _ _ elB rfl rfl rfl ho rfl 0 rfl (by omega) hsz ?_
           intro A3 c3 w3 ho3 hb3 _ _))
      rw [padA_snoc] at ho3
      go_roundw
      case rel => exact ⟨A3, c3, k + 1, by omega, rfl, ho3, hb.trans hb3⟩
      case measure => simp; omega
    · have hkz : k = padZ n1 := by omega
      have t1 : ((n1 : Int) + 1 + (k : Int)) % 64 = 56 := by rw [hkz]; unfold padZ; omega
      have HK := Lib.hid hkz
      have HT := Lib.hid t1
      have t2 : (((n1 : Int) + 1 + (k : Int)) % 64 == 56) = true := by simpa using t1
      have t3 : (((n1 : Int) + 1 + (k : Int)) % 64 != 56) = false := by rw [bne, t2]; rfl
      clear hkz hk t1 hlt
      obtain ⟨U, hU⟩ : ∃ U, U = 8 * n1 := ⟨_, rfl⟩
      have u1 : (n1 : Int) * 8 = (U : Int) := by omega
      have HU := Lib.hid hU
      obtain ⟨L, hL⟩ : ∃ L, L = n1 + 1 + k := ⟨_, rfl⟩
      rw [← hL] at ho
      have hLb : L ≤ 1099511627776 + 65 := by have := HK.out; omega
      have hL64 : (L + 8) % 64 = 0 := by have := HT.out; omega
      have hLl : L = (padA bs k).length := by rw [padA_len, ← HL.out]; exact hL
      go_wp2_with fail
      rw [← hL, u1]
      have HLL := Lib.hid hLl
      clear hU hL t2 t3 hLl u1
      go_loopw [24, 4] (fun v s wr => ∃ (A' : Option Addr) (c' i : Nat), i ≤ 8 ∧ v = .int .i64 i ∧ s = .slice A' (L + i) c' ∧ Own wr W.heap.size 5 1 A' (L + i) c' (B8 (padA bs k ++ (be8 U).take i)) ∧ Below W.heap.size W wr) (fun v _ _ => 8 - (intOf v).toNat)
      case atStart => exact ⟨A', c', 0, Nat.zero_le _, rfl, rfl, by simpa using ho, hb⟩
      case round =>
        clear ho hb hsz
        obtain ⟨A', c', i, hi, rfl, rfl, ho, hb⟩ := hrel
        have hsz := hb.size
        by_cases hlt : i < 8
        · have t1 : (i : Int) < 8 := by omega
          obtain ⟨sh, hsh⟩ : ∃ sh, sh = 56 - 8 * i := ⟨_, rfl⟩
          have u2 : 56 - 8 * (i : Int) = (sh : Int) := by omega
          have b1 := be8_at U i hlt
          rw [← hsh] at b1
          have hy : (U : Int) / 2 ^ sh % 256 = ((UInt8.ofNat (U / 2 ^ sh)).toNat : Int) := by rw [u8_ofNat]; simp [Int.natCast_ediv, Int.natCast_pow]
          have HY := Lib.hid hy
          have hsn : (be8 U).take (i + 1) = (be8 U).take i ++ [UInt8.ofNat (U / 2 ^ sh)] := by rw [List.take_add_one, b1]; rfl
          have HS := Lib.hid hsn
          clear hsh b1 hy hsn
          go_wp2_with (first
            | (at_builtin
               refine wpl_push8 _ _ _ elB rfl rfl rfl ho rfl (UInt8.ofNat (U / 2 ^ sh)) HY.out (by omega) hsz ?_
               intro A3 c3 w3 ho3 hb3 _ _))
          rw [List.append_assoc, ← HS.out] at ho3
          go_roundw
          case rel => exact ⟨A3, c3, i + 1, by omega, by go_num, rfl, ho3, hb.trans hb3⟩
          case measure => simp [intOf]; omega
        · have t1 : ¬ (i : Int) < 8 := by omega
          obtain rfl : i = 8 := by omega
          have ep : padA bs k ++ (be8 U).take 8 = pad bs := by rw [pad_eq, ← HL.out, ← HK.out, ← HU.out]; rfl
          rw [ep] at ho
          obtain ⟨Pd, hPd⟩ : ∃ Pd, Pd = pad bs := ⟨_, rfl⟩
          rw [← hPd] at ho
          have HPd := Lib.hid hPd
          clear hPd ep
          go_wp2_with fail
          refine (begun_any _).mono ?_
          rintro e w4 ⟨rfl, hb4⟩
          go_wp2_with (first
            | (refine wpl_store_new rfl _ _ _ rfl 90 _ (V32 shaBegun.list) rfl rfl (by kernel_rfl) (info_st rfl) (V32_one _) ?_; intro w5 b5 hb5))
          try simp only [Act.put]
          have hP64 : Pd.length % 64 = 0 := by rw [HPd.out]; exact pad_len bs
          have hPL : Pd.length = L + 8 := ho.len8.symm
          have hc' := ho.le.1
          have hc2 : c' ≤ 9223372036854775807 := by have := ho.le.2; simp only [maxLen] at this; omega
          obtain ⟨g, rfl, hgW, hgw, _⟩ := ho.at8 (by omega)
          have hsz5 : W.heap.size ≤ w4.heap.size := Nat.le_trans hsz hb4.size
          have so5 : Sl w5 1 (some ⟨g, 0, none⟩) (L + 8) (B8 Pd) := (ho.sl.to hb4).to hb5
          have hbW5 : Below W.heap.size W w5 := hb.trans ((hb4.trans (hb5.mono hb4.size)).mono hsz)
          generalize hp6 : w4.heap.size = p6 at *
          have hg6 : g < p6 := by have := hb4.size; omega
          have HP6 := Lib.hid hp6
          have HPL := Lib.hid hPL
          have HP64 := Lib.hid hP64
          clear hp6 ho hb hsz hb4 hb5 hPL hP64
          go_loopw [4] (fun v wr => ∃ (A' : Option Addr) (c' k : Nat), 64 * k ≤ Pd.length ∧ v = .slice A' (Pd.length - 64 * k) c' ∧ Pd.length - 64 * k ≤ c' ∧ c' ≤ 9223372036854775807 ∧ (64 * k < Pd.length → A' = some ⟨g, 64 * k, none⟩) ∧ Blk wr p6 90 (V32 (run shaBegun Pd k).list) ∧ Below p6 w5 wr ∧ p6 < wr.heap.size) (fun v _ => (match v with | .slice _ m _ => m | _ => 0))
          case atStart =>
            refine ⟨some ⟨g, 0, none⟩, c', 0, by omega, by rw [HPL.out]; rfl, by rw [HPL.out]; exact hc', hc2, fun _ => rfl, b5, Below.refl _ _, b5.lt⟩
          case round =>
            clear b5 hc' hc2
            obtain ⟨A', c', k, hk, rfl, hc', hc2, hA, bk, hbk, hpk⟩ := hrel
            by_cases hlt : 64 * k < Pd.length
            · obtain rfl := hA hlt
              have hge : 64 * k + 64 ≤ Pd.length := by have := HP64.out; omega
              obtain ⟨m, hm⟩ : ∃ m, m = Pd.length - 64 * k := ⟨_, rfl⟩
              have t1 : (0 : Int) < (m : Int) := by omega
              have t2 : (64 : Int) ≤ (m : Int) := by omega
              have t3 : (64 : Int) ≤ (c' : Int) := by omega
              rw [← hm]
              rw [← hm] at hc'
              have HM := Lib.hid hm
              clear hm
              go_wp2_with fail
              obtain ⟨bl, hbl⟩ : ∃ bl, bl = (Pd.drop (64 * k)).take 64 := ⟨_, rfl⟩
              have hblk : Sl wr 1 (some ⟨g, 64 * k, none⟩) 64 (B8 bl) := by
                have h1 := ((so5.bel2 hbk (by omega)).back (k := 64 * k) (by have := HPL.out; omega)).front (k := 64) (by have := HPL.out; omega)
                rw [Nat.zero_add] at h1
                rw [hbl]
                exact h1
              have hrun : run shaBegun Pd (k + 1) = comp (run shaBegun Pd k) bl := by rw [hbl, run]
              have HRUN := Lib.hid hrun
              have hok := run_ok Pd k
              obtain ⟨S, hS⟩ : ∃ S, S = run shaBegun Pd k := ⟨_, rfl⟩
              rw [← hS] at bk hok
              rw [← hS] at HRUN
              clear hbl hS hrun
              refine wp_region_C [(1, true), (2, true), (0, false), (3, false), (4, false)] (RBut (some p6)) (by kernel_rfl) (by kernel_rfl) (by kernel_rfl) (by decide) (RBut.refl_ _) (RBut.trans_ _) (by intro d v c a w h; cases d <;> exact h) ?_
              have bk' : Blk wr.drew p6 90 (V32 S.list) := bk
              have hblk' := hblk.drew
              have hbk' : Below p6 w5 wr.drew := hbk.drew
              have hpk' : p6 < wr.drew.heap.size := hpk
              clear bk hblk hbk hpk
              generalize wr.drew = wd at *
              repeat (first | (refine wpC_quiet (v := ?_) rfl (by rfl) ?_ ?_; rotate_left; (· (intro w' hw'; go_simp; try with_reducible rfl)); simp only [Act.put, List.setIfInBounds_toArray, List.set_cons_zero, List.set_cons_succ]) | (refine wpC_val (v := ?_) (RBut.refl_ _) rfl (by rfl) ?_ ?_; rotate_left; (· (go_simp; try with_reducible rfl)); simp only [Act.put, List.setIfInBounds_toArray, List.set_cons_zero, List.set_cons_succ]) | (refine wpC_skip rfl (by rfl) ?_; simp only [Act.put, List.setIfInBounds_toArray, List.set_cons_zero, List.set_cons_succ]) | (refine wpC_skip' (RBut.refl_ _) rfl (by rfl) ?_; simp only [Act.put, List.setIfInBounds_toArray, List.set_cons_zero, List.set_cons_succ]))
              refine wpC_load_blk (RBut.refl_ _) rfl (by rfl) _ _ rfl p6 rfl 90 (V32 S.list) _ bk' Try.underlying90 rfl (info_st rfl) ?_
              simp only [Act.put, List.setIfInBounds_toArray, List.set_cons_zero, List.set_cons_succ]
              (refine wpC_loud rfl (by rfl) ?_; intro K hK; go_simp)
              have AD := add_any S hok g (64 * k) c' bl wd hblk' (by omega) (by omega) hc2
              obtain ⟨T, hT⟩ : ∃ T, T = comp S bl := ⟨_, rfl⟩
              rw [← hT] at AD
              rw [← hT] at HRUN
              clear hT
              refine AD.mono ?_
              clear AD
              rintro e w8 ⟨rfl, hb8⟩
              (refine hK.out _ _ (RBut.of_below hb8) ?_; clear hK K; try simp only [Act.put, List.setIfInBounds_toArray, List.set_cons_zero, List.set_cons_succ])
              refine wpC_store_blk rfl (by rfl) _ _ _ rfl p6 90 (V32 S.list) (V32 T.list) rfl rfl (bk'.to hb8) rfl (info_st rfl) (V32_one _) (fun w' h => h) ?_
              intro w9 b9 hb9
              simp only [Act.put, List.setIfInBounds_toArray, List.set_cons_zero, List.set_cons_succ]
              refine wpC_nil ?_
              have hb5' : Below p6 w5 w9 := hbk'.trans ((hb8.mono (by omega)).trans (below_but hb9 (Nat.le_refl _) (Nat.le_trans (Nat.le_of_lt hpk') hb8.size)))
              have hp9 := b9.lt
              rw [← HRUN.out] at b9
              by_cases hcc : c' = 64
              · subst hcc
                obtain rfl : m = 64 := by omega
                go_wp2_with fail
                go_roundw
                case rel => exact ⟨_, _, k + 1, by omega, by have := HM.out; congr 1; omega, by have := HM.out; omega, by omega, fun h => by have := HM.out; omega, b9, hb5', hp9⟩
                case measure => simp
              · go_wp2_with fail
                go_roundw
                case rel => exact ⟨_, _, k + 1, by omega, by have := HM.out; congr 1; omega, by have := HM.out; omega, by omega, fun h => rfl, b9, hb5', hp9⟩
                case measure => simp; omega
            · have hz : Pd.length - 64 * k = 0 := by omega
              rw [hz]
              rw [hz] at hc'
              have hkk : k = Pd.length / 64 := by omega
              have HKK := Lib.hid hkk
              have HZ := Lib.hid hz
              clear hz hkk
              obtain ⟨S, hS⟩ : ∃ S, S = run shaBegun Pd k := ⟨_, rfl⟩
              rw [← hS] at bk
              have hfin : shaS bs = S.bytes := by rw [hS, HKK.out, HPd.out]; rfl
              have hok : S.ok := by rw [hS]; exact run_ok Pd k
              have HF := Lib.hid hfin
              have b7 : Blk (wr.alloc (.cells #[.int .u8 0, .int .u8 0, .int .u8 0, .int .u8 0, .int .u8 0, .int .u8 0, .int .u8 0, .int .u8 0, .int .u8 0, .int .u8 0, .int .u8 0, .int .u8 0, .int .u8 0, .int .u8 0, .int .u8 0, .int .u8 0, .int .u8 0, .int .u8 0, .int .u8 0, .int .u8 0, .int .u8 0, .int .u8 0, .int .u8 0, .int .u8 0, .int .u8 0, .int .u8 0, .int .u8 0, .int .u8 0, .int .u8 0, .int .u8 0, .int .u8 0, .int .u8 0] 27)) wr.heap.size 27 (B8 (List.replicate 32 0)) := Blk.new wr _ _
              have hb7 : Below wr.heap.size wr (wr.alloc (.cells #[.int .u8 0, .int .u8 0, .int .u8 0, .int .u8 0, .int .u8 0, .int .u8 0, .int .u8 0, .int .u8 0, .int .u8 0, .int .u8 0, .int .u8 0, .int .u8 0, .int .u8 0, .int .u8 0, .int .u8 0, .int .u8 0, .int .u8 0, .int .u8 0, .int .u8 0, .int .u8 0, .int .u8 0, .int .u8 0, .int .u8 0, .int .u8 0, .int .u8 0, .int .u8 0, .int .u8 0, .int .u8 0, .int .u8 0, .int .u8 0, .int .u8 0, .int .u8 0] 27)) := (Below.refl _ _).alloc (Nat.le_refl _) _
              clear hS hfin
              go_wp2_with fail
              generalize wr.alloc (.cells #[.int .u8 0, .int .u8 0, .int .u8 0, .int .u8 0, .int .u8 0, .int .u8 0, .int .u8 0, .int .u8 0, .int .u8 0, .int .u8 0, .int .u8 0, .int .u8 0, .int .u8 0, .int .u8 0, .int .u8 0, .int .u8 0, .int .u8 0, .int .u8 0, .int .u8 0, .int .u8 0, .int .u8 0, .int .u8 0, .int .u8 0, .int .u8 0, .int .u8 0, .int .u8 0, .int .u8 0, .int .u8 0, .int .u8 0, .int .u8 0, .int .u8 0, .int .u8 0] 27) = V at *
              have bkV := bk.to hb7
              have hbV : Below p6 w5 V := hbk.trans (hb7.mono (Nat.le_of_lt hpk))
              have hp7 : p6 ≠ wr.heap.size := by omega
              generalize hq : wr.heap.size = q7 at *
              have HQ := Lib.hid hq
              clear hq bk hbk
              go_loopw [47] (fun v wr => ∃ i : Nat, i ≤ 32 ∧ v = .int .i64 i ∧ Blk wr q7 27 (B8 (S.bytes.take i ++ List.replicate (32 - i) 0)) ∧ RBut (some q7) V wr) (fun v _ => 32 - (intOf v).toNat)
              case atStart => exact ⟨0, by omega, rfl, by simpa using b7, RBut.refl_ _ _⟩
              case round =>
                clear b7
                obtain ⟨i, hi, rfl, bi, hbi⟩ := hrel
                by_cases hlt : i < 32
                · have t1 : (i : Int) < 32 := by omega
                  obtain ⟨d, hd⟩ : ∃ d, d = i / 4 := ⟨_, rfl⟩
                  obtain ⟨r, hr⟩ : ∃ r, r = i % 4 := ⟨_, rfl⟩
                  obtain ⟨sh, hsh⟩ : ∃ sh, sh = 24 - 8 * (i % 4) := ⟨_, rfl⟩
                  have u1 : (i : Int) / 4 = (d : Int) := by omega
                  have u2 : (i : Int) % 4 = (r : Int) := by omega
                  have u3 : 24 - 8 * (r : Int) = (sh : Int) := by omega
                  have t2 : (d : Int) < 8 := by omega
                  have hb := S.byte_at i hlt
                  rw [← hd, ← hsh] at hb
                  have hw : S.list[d]? = some (S.list.getD d 0) := by
                    have : d < S.list.length := by simp [S8.list]; omega
                    rw [List.getD, List.getElem?_eq_getElem this]; rfl
                  generalize S.list.getD d 0 = x at *
                  have bk2 := bkV.but hbi (fun h => by injection h; omega)
                  have cx := (bk2.cell d).trans (V32_get hw)
                  have ci : wr.cell? ⟨q7, i, none⟩ = some (.int .u8 0) := by
                    rw [bi.cell, B8, List.getElem?_map, List.getElem?_append_right (by simp [S8.bytes_len]; omega), List.length_take, S8.bytes_len, Nat.min_eq_left (by omega), Nat.sub_self, List.getElem?_replicate, if_pos (by omega)]
                    rfl
                  have fi := bi.fz i
                  have hy : (x : Int) / 2 ^ sh % 256 = ((UInt8.ofNat (x / 2 ^ sh)).toNat : Int) := by rw [u8_ofNat]; simp [Int.natCast_ediv, Int.natCast_pow]
                  have bs2 := bi.set_ i (.int .u8 ((UInt8.ofNat (x / 2 ^ sh)).toNat : Int))
                  have hst : (B8 (S.bytes.take i ++ List.replicate (32 - i) 0)).set i (.int .u8 ((UInt8.ofNat (x / 2 ^ sh)).toNat : Int)) = B8 (S.bytes.take (i + 1) ++ List.replicate (32 - (i + 1)) 0) := by
                    rw [fill8 _ (32 - i) i _ (by simp [S8.bytes_len]; omega) (by omega), List.take_add_one, hb]
                    rfl
                  rw [hst] at bs2
                  have hbs2 := RBut.trans_ _ _ _ _ hbi (RBut.setC wr q7 i (.int .u8 ((UInt8.ofNat (x / 2 ^ sh)).toNat : Int)))
                  rw [← hy] at bs2 hbs2
                  have BS2 := Lib.hid bs2
                  have HBS2 := Lib.hid hbs2
                  clear hb hw hy hst bs2 hbs2 hd hr hsh
                  go_wp2_with fail
                  go_roundw
                  case rel => exact ⟨i + 1, by omega, by go_num, BS2.out, HBS2.out⟩
                  case measure => simp [intOf]; omega
                · have t1 : ¬ (i : Int) < 32 := by omega
                  obtain rfl : i = 32 := by omega
                  have e32 : S.bytes.take 32 ++ List.replicate (32 - 32) 0 = S.bytes := by rw [List.take_of_length_le (by rw [S8.bytes_len]; omega)]; simp
                  rw [e32] at bi
                  clear e32
                  have hV : Below W.heap.size W V := hbW5.trans (hbV.mono hsz5)
                  have hVs := hV.size
                  have hq7 : p6 < q7 := by have := HQ.out; omega
                  have b2V := (b2.to hV).but hbi (fun h => by injection h; omega)
                  have hbl : S.bytes.length = 32 := S8.bytes_len S
                  generalize S.bytes = sb at *
                  have HBL := Lib.hid hbl
                  clear hbl
                  go_wp2_with (first
                    | (refine wpl_load_blk rfl _ _ rfl q7 rfl 27 (B8 sb) _ bi Try.underlying27 rfl (by rw [B8_len, HBL.out]; kernel_rfl) ?_)
                    | (refine wpl_store_blk rfl _ _ _ rfl N 27 (B8 (List.replicate 32 0)) (B8 sb) rfl rfl b2V (by rw [B8_len, B8_len, HBL.out]; rfl) (by rw [B8_len, HBL.out]; kernel_rfl) (B8_one _) ?_; intro w9 b9 hb9))
                  rw [HF.out]
                  exact bodyPost_ret (v := hv sb) (results_blk Try.results42 rfl b9 Try.underlying27 rfl (by rw [B8_len, HBL.out]; kernel_rfl)) rfl ⟨rfl, by
                    rw [HN.out]
                    have e0 : Below N w V := hbA.trans (hV.mono (Nat.le_of_lt hNW))
                    have e1 := below_but hbi (show N ≤ q7 by omega) (show N ≤ V.heap.size by omega)
                    have e2 := below_but hb9 (Nat.le_refl N) (Nat.le_trans (show N ≤ V.heap.size by omega) e1.size)
                    exact e0.trans (e1.trans e2)⟩
end Go.Proofs.Ytakebmpnbdlcoaa
