/- The walk of capstanlaw1.CodeEdges. -/
import Derived.Test.YtoecbgdkbncfbaaRead5
namespace Go.Proofs.Ytoecbgdkbncfbaa
open Go.RowKit

theorem enc_get : ∀ (n u : Nat), u ≤ n → ∀ (j : Nat) (h : j < (enc u).length), (128 ≤ (enc u)[j].toNat ↔ j + 1 < (enc u).length) ∧ (0 < u → (enc u)[j].toNat ≠ 0)
  | 0, u, hu, j, h => by
    obtain rfl : u = 0 := by omega
    have e := enc_lo (u := 0) (by decide)
    have hj : j = 0 := by rw [e] at h; simpa using h
    subst hj
    simp only [e]
    simp
  | n + 1, u, hu, j, h => by
    by_cases hlt : u < 128
    · have e := enc_lo hlt
      have hj : j = 0 := by rw [e] at h; simpa using h
      subst hj
      have e2 : (UInt8.ofNat u).toNat = u := by rw [UInt8.toNat_ofNat']; omega
      simp only [e, List.getElem_cons_zero, List.length_cons, List.length_nil, e2]
      omega
    · have e := enc_hi hlt
      have e2 : (UInt8.ofNat (u % 128 + 128)).toNat = u % 128 + 128 := by rw [UInt8.toNat_ofNat']; omega
      have hp := enc_pos (u / 128)
      rcases j with _ | j
      · simp only [e, List.getElem_cons_zero, List.length_cons, e2]
        omega
      · have h' : j < (enc (u / 128)).length := by rw [e] at h; simpa using h
        have ih := enc_get n (u / 128) (by omega) j h'
        simp only [e, List.getElem_cons_succ, List.length_cons]
        exact ⟨by rw [ih.1]; omega, fun _ => ih.2 (by omega)⟩

/-- the bytes of some numbers -/
def encs (zs : List Int) : List UInt8 := zs.flatMap fun z => enc (zig z)
theorem encs_snoc (zs : List Int) (i : Nat) (z : Int) (h : zs[i]? = some z) : encs (zs.take (i + 1)) = encs (zs.take i) ++ enc (zig z) := by
  obtain ⟨hl, he⟩ := List.getElem?_eq_some_iff.1 h
  unfold encs
  rw [List.take_succ_eq_append_getElem hl, List.flatMap_append, he]
  simp
theorem encs_drop (zs : List Int) (i : Nat) (z : Int) (h : zs[i]? = some z) : encs (zs.drop i) = enc (zig z) ++ encs (zs.drop (i + 1)) := by
  obtain ⟨hl, he⟩ := List.getElem?_eq_some_iff.1 h
  unfold encs
  rw [List.drop_eq_getElem_cons hl, List.flatMap_cons, he]
theorem encs_le (zs : List Int) (h : ∀ z ∈ zs, -9223372036854775808 ≤ z ∧ z < 9223372036854775808) : (encs zs).length ≤ 10 * zs.length := by
  induction zs with
  | nil => simp [encs]
  | cons z zs ih =>
    have h1 := enc_le (zig_lt (h z (by simp)).1 (h z (by simp)).2)
    have h2 := ih (fun y hy => h y (by simp [hy]))
    unfold encs at h2 ⊢
    rw [List.flatMap_cons, List.length_append, List.length_cons]
    omega
theorem wrap64_bd (x : Int) : -9223372036854775808 ≤ wrap64 x ∧ wrap64 x < 9223372036854775808 := by unfold wrap64; omega

set_option maxHeartbeats 2000000 in
theorem codeEdges_walk (w : World) (k : Int) (k_lo : -9223372036854775808 ≤ k) (k_hi : k < 9223372036854775808) (by_ : Int) (b_lo : -9223372036854775808 ≤ by_) (b_hi : by_ < 9223372036854775808) :
    Calls Try.prog 6 #[.int .i64 k, .int .i64 by_] w (RB true w) := by
  obtain ⟨j, hj⟩ : ∃ j : Nat, k % 63 = (j : Int) := ⟨(k % 63).toNat, by omega⟩
  have hj63 : j < 63 := by omega
  obtain ⟨d, hd⟩ : ∃ d : Int, by_ % 5 = d := ⟨_, rfl⟩
  have hd1 : 0 ≤ d ∧ d < 5 := by omega
  have HJ := Lib.hid hj
  have HD := Lib.hid hd
  clear hj hd
  go_enter Try.func6, Try.ntmps6
  go_wp2_with fail
  refine (known_any w).mono ?_
  rintro e w1 ⟨rfl, hb1⟩
  go_wp2_with fail
  refine (within_any k 63 w1 (by omega) (by omega) k_lo k_hi).mono ?_
  rintro e w' ⟨rfl, rfl⟩
  rw [HJ.out]
  go_wp2_with fail
  refine (within_any by_ 5 w1 (by omega) (by omega) b_lo b_hi).mono ?_
  rintro e w' ⟨rfl, rfl⟩
  rw [HD.out]
  go_wp2_with fail
  generalize hz0 : wrap64 (wrap64 (2 ^ j) + (d - 2)) = z0
  generalize hz1 : wrap64 (wrap64 (-wrap64 (2 ^ j)) + (d - 2)) = z1
  have bz0 := wrap64_bd (wrap64 (2 ^ j) + (d - 2))
  have bz1 := wrap64_bd (wrap64 (-wrap64 (2 ^ j)) + (d - 2))
  rw [hz0] at bz0
  rw [hz1] at bz1
  obtain ⟨zs, hzs⟩ : ∃ zs : List Int, zs = [z0, z1, 9223372036854775807, -9223372036854775808] := ⟨_, rfl⟩
  have bzs : ∀ z ∈ zs, -9223372036854775808 ≤ z ∧ z < 9223372036854775808 := by
    subst hzs
    intro z hz
    simp at hz
    omega
  have hlz : zs.length = 4 := by rw [hzs]; rfl
  have bl : Blk (w1.alloc (.cells #[.int .i64 z0, .int .i64 z1, .int .i64 9223372036854775807, .int .i64 (-9223372036854775808)] 3)) w1.heap.size 3 (zs.map (Value.int .i64)) := by
    rw [hzs]
    exact Blk.new w1 _ _
  have fin0 := hb1.alloc hb1.size (.cells #[.int .i64 z0, .int .i64 z1, .int .i64 9223372036854775807, .int .i64 (-9223372036854775808)] 3)
  have cellz : ∀ (i : Nat) (z : Int), zs[i]? = some z → (w1.alloc (.cells #[.int .i64 z0, .int .i64 z1, .int .i64 9223372036854775807, .int .i64 (-9223372036854775808)] 3)).cell? ⟨w1.heap.size, i, none⟩ = some (.int .i64 z) := by
    intro i z hi
    rw [bl.cell, List.getElem?_map, hi]
    rfl
  have hlt0 := bl.lt
  have BZ := Lib.hid bzs
  have LZ := Lib.hid hlz
  have CZ := Lib.hid cellz
  clear hz0 hz1 hzs bzs hlz cellz bl bz0 bz1 hd1 hj63 HJ HD
  generalize w1.alloc (.cells #[.int .i64 z0, .int .i64 z1, .int .i64 9223372036854775807, .int .i64 (-9223372036854775808)] 3) = W at *
  go_loopw [6, 7] (fun s i wr => ∃ (A' : Option Addr) (n' c' m : Nat), s = .slice A' n' c' ∧ i = .int .i64 m ∧ m ≤ 4 ∧ Own wr W.heap.size 5 1 A' n' c' (B8 (encs (zs.take m))) ∧ Below W.heap.size W wr) (fun _ i _ => 4 - (intOf i).toNat)
  case atStart => exact ⟨none, 0, 0, 0, rfl, rfl, by omega, Own.nil_, Below.refl _ _⟩
  case round =>
    obtain ⟨A', n', c', m, rfl, rfl, hm4, ho, hb⟩ := hrel
    have hsz := hb.size
    have hn' : n' ≤ 40 := by
      rw [ho.len8]
      have := encs_le (zs.take m) (fun z hz => BZ.out z (List.mem_of_mem_take hz))
      rw [List.length_take] at this
      omega
    by_cases hlt : m < 4
    · obtain ⟨z, hz⟩ : ∃ z, zs[m]? = some z := ⟨_, List.getElem?_eq_getElem (by rw [LZ.out]; exact hlt)⟩
      have hzb := BZ.out z (List.mem_of_getElem? hz)
      have cz := (hb.cell (p := ⟨w1.heap.size, m, none⟩) hlt0).trans (CZ.out m z hz)
      have snoc := encs_snoc zs m z hz
      have SN := Lib.hid snoc
      have t1 : (m : Int) < 4 := by omega
      clear snoc hz
      go_wp2_with fail
      refine (int_any none 0 0 [] z _ Sl.nil_ (by omega) hzb.1 hzb.2).mono ?_
      rintro e w2 ⟨A2, n2, c2, rfl, ho2, hb2⟩
      rw [List.nil_append] at ho2
      have hn2 := ho2.len8
      have hle := enc_le (zig_lt hzb.1 hzb.2)
      have hpos := enc_pos (zig z)
      obtain ⟨g, rfl, _, _, hcx⟩ := ho2.at8 (by omega)
      have q1 : ¬ (n2 : Int) < 1 := by omega
      have q2 : ¬ (10 : Int) < (n2 : Int) := by omega
      have hn2b : 1 ≤ n2 ∧ n2 ≤ 10 := by omega
      have eg := fun (i : Nat) (h : i < n2) => enc_get (zig z) (zig z) (Nat.le_refl _) i (by omega)
      have cx : ∀ (i : Nat) (h : i < n2), ∃ y : Nat, w2.cell? ⟨g, i, none⟩ = some (.int .u8 (y : Int)) ∧ (128 ≤ y ↔ i + 1 < n2) ∧ (1 < n2 → y ≠ 0) := by
        intro i h
        refine ⟨(enc (zig z))[i].toNat, hcx i _ (List.getElem?_eq_getElem (by omega)), by rw [(eg i h).1, ← hn2], fun h1 => (eg i h).2 ?_⟩
        rcases Nat.eq_zero_or_pos (zig z) with h0 | h0
        · rw [h0, enc_lo (by decide)] at hn2
          simp at hn2
          omega
        · exact h0
      have CX := Lib.hid cx
      clear cx hcx eg hn2 hle hpos hzb
      have key : ∃ y : Nat, w2.cell? ⟨g, n2 - 1, none⟩ = some (.int .u8 (y : Int)) ∧ (1 < n2 → y ≠ 0) := by
        obtain ⟨y, h1, _, h2⟩ := CX.out (n2 - 1) (by omega)
        exact ⟨y, h1, h2⟩
      obtain ⟨y, cy, hy0⟩ := key
      have HY := Lib.hid hy0
      have t5 : ((n2 : Int) - 1).toNat = n2 - 1 := by omega
      have t6 : (1 : Int) < (n2 : Int) ∧ ((y : Int) == 0) = false ∧ ¬ y = 0 ∨ ¬ (1 : Int) < (n2 : Int) := by
        by_cases h1 : 1 < n2
        · have := hy0 h1
          left
          simp
          omega
        · right; omega
      clear hy0
      have hb3 := hb.trans (hb2.mono hsz)
      have hsz3 := hb3.size
      have hsz2 := hb2.size
      rcases t6 with ⟨t6, t7, t8⟩ | t6
      all_goals
        dsimp only
        go_wp2_with fail
        go_loop [9] (fun i => ∃ q : Nat, q ≤ n2 ∧ i = .int .i64 q) (fun i => n2 - (intOf i).toNat)
        case atStart => exact ⟨0, Nat.zero_le _, rfl⟩
        case round =>
          obtain ⟨q, hq, rfl⟩ := hrel
          clear t5
          by_cases hqn : q < n2
          · obtain ⟨x, cx, hx, _⟩ := CX.out q hqn
            have r1 : (q : Int) < (n2 : Int) := by omega
            by_cases hq1 : q + 1 < n2
            · have r2 : (q : Int) < (n2 : Int) - 1 := by omega
              have r3 : (128 : Int) ≤ (x : Int) := by have := hx.2 hq1; omega
              clear hx
              go_wp2
              go_round
              case rel => exact ⟨q + 1, by omega, by go_num⟩
              case measure => simp [intOf]; omega
            · have r2 : ¬ (q : Int) < (n2 : Int) - 1 := by omega
              have r3 : ¬ (128 : Int) ≤ (x : Int) := fun h => hq1 (hx.1 (by omega))
              clear hx
              go_wp2
              go_round
              case rel => exact ⟨q + 1, by omega, by go_num⟩
              case measure => simp [intOf]; omega
          · have r1 : ¬ (q : Int) < (n2 : Int) := by omega
            go_wp2_with (first
              | (at_builtin
                 refine wpl_app _ _ _ _ elB rfl rfl rfl (ho.to (hb2.mono (Nat.le_refl _))) rfl ho2.sl (B8_one _) (by omega) (by omega) (by omega) ?_
                 intro A3 c3 w3 g3))
            have ho3 := g3.own
            rw [← B8_app, ← SN.out] at ho3
            have hb4 := hb3.trans (g3.below (ho.to hb2) hsz3)
            go_roundw
            case rel => exact ⟨A3, _, c3, m + 1, rfl, by go_num, by omega, ho3, hb4⟩
            case measure => simp [intOf]; omega
    · have t1 : ¬ (m : Int) < 4 := by omega
      have fin1 := fin0.trans (hb.mono fin0.size)
      rw [List.take_of_length_le (by rw [LZ.out]; omega)] at ho
      go_wp2_with fail
      refine (new_any A' n' c' (encs zs) _ ho.sl (by omega)).mono ?_
      rintro e w3 ⟨p, rfl, hp, hr3, hb3⟩
      have fin3 := fin1.trans (hb3.mono fin1.size)
      have hpw : w.heap.size ≤ p := Nat.le_trans fin1.size hp
      have hpL : w1.heap.size ≠ p := by omega
      have hbW := hb.trans (hb3.mono hsz)
      go_wp2_with fail
      have cellp : ∀ (w' : World), RBut (some p) w3 w' → ∀ (i : Nat) (z : Int), zs[i]? = some z → w'.cell? ⟨w1.heap.size, i, none⟩ = some (.int .i64 z) := by
        intro w' hw' i z hz
        have e1 := hw'.block w1.heap.size (Nat.lt_of_lt_of_le hlt0 hbW.size) (fun h => by injection h; omega)
        exact (World.cell?_of_block (a := ⟨w1.heap.size, i, none⟩) e1).trans ((hbW.cell (p := ⟨w1.heap.size, i, none⟩) hlt0).trans (CZ.out i z hz))
      have CP := Lib.hid cellp
      clear cellp
      go_loopw [11] (fun i wr => ∃ q : Nat, q ≤ 4 ∧ i = .int .i64 q ∧ Rd wr p (encs (zs.drop q)) 0 ∧ RBut (some p) w3 wr) (fun i _ => 4 - (intOf i).toNat)
      case atStart => exact ⟨0, by omega, rfl, hr3, RBut.refl_ _ _⟩
      case round =>
        obtain ⟨q, hq4, rfl, hrq, hbq⟩ := hrel
        by_cases hlq : q < 4
        · obtain ⟨z, hz⟩ : ∃ z, zs[q]? = some z := ⟨_, List.getElem?_eq_getElem (by rw [LZ.out]; exact hlq)⟩
          have hzb := BZ.out z (List.mem_of_getElem? hz)
          have S1 : Hid (stInt (encs (zs.drop q), 0) = (z, (encs (zs.drop (q + 1)), 0))) := (by
            show _ = _
            rw [encs_drop zs q z hz]
            simp [stInt, dec_enc0 (zig z) _ (zig_lt hzb.1 hzb.2), zag_zig])
          have HZ := Lib.hid hz
          clear hz hzb
          have r1 : (q : Int) < 4 := by omega
          go_wp2_with fail
          have cq : ∀ w', RBut (some p) wr.drew w' → w'.cell? ⟨w1.heap.size, q, none⟩ = some (.int .i64 z) := fun w' hw' => CP.out w' (RBut.trans_ _ _ _ _ (RBut.trans_ _ _ _ _ hbq (RBut.of_below (Below.refl _ _).drew)) hw') q z HZ.out
          have hrq' : Rd wr.drew p (encs (zs.drop q)) 0 := hrq.keep (Below.refl _ _).drew
          have hbq' : RBut (some p) w3 wr.drew := RBut.trans_ _ _ _ _ hbq (RBut.of_below (Below.refl _ _).drew)
          refine wp_region_C [(0, true), (2, true), (3, true), (4, true), (5, true), (1, false), (6, false)] (RBut (some p)) (by kernel_rfl) (by kernel_rfl) (by kernel_rfl) (by decide) (RBut.refl_ _) (RBut.trans_ _) (by intro d v c a w h; cases d <;> exact h) ?_
          clear hrq hbq
          generalize wr.drew = wd at *
          repeat (first | (refine wpC_quiet (v := ?_) rfl (by rfl) ?_ ?_; rotate_left; (· (intro w' hw'; go_simp; try with_reducible rfl)); simp only [Act.put, List.setIfInBounds_toArray, List.set_cons_zero, List.set_cons_succ]) | (refine wpC_val (v := ?_) (RBut.refl_ _) rfl (by rfl) ?_ ?_; rotate_left; (· (go_simp; try with_reducible rfl)); simp only [Act.put, List.setIfInBounds_toArray, List.set_cons_zero, List.set_cons_succ]) | (refine wpC_skip rfl (by rfl) ?_; simp only [Act.put, List.setIfInBounds_toArray, List.set_cons_zero, List.set_cons_succ]) | (refine wpC_skip' (RBut.refl_ _) rfl (by rfl) ?_; simp only [Act.put, List.setIfInBounds_toArray, List.set_cons_zero, List.set_cons_succ]))
          clear cq
          (refine wpC_loud rfl (by rfl) ?_; intro K hK; go_simp)
          refine (rInt_any p (encs (zs.drop q), 0) _ hrq').mono ?_
          rw [S1.out]
          rintro e w8 ⟨rfl, hr8, hb8⟩
          (refine hK.out _ _ (hb8) ?_; clear hK K; try simp only [Act.put, List.setIfInBounds_toArray, List.set_cons_zero, List.set_cons_succ])
          dsimp only at hr8
          have hbx := RBut.trans_ _ _ _ _ hbq' hb8
          repeat (first | (refine wpC_quiet (v := ?_) rfl (by rfl) ?_ ?_; rotate_left; (· (intro w' hw'; go_simp; try with_reducible rfl)); simp only [Act.put, List.setIfInBounds_toArray, List.set_cons_zero, List.set_cons_succ]) | (refine wpC_val (v := ?_) (RBut.refl_ _) rfl (by rfl) ?_ ?_; rotate_left; (· (go_simp; try with_reducible rfl)); simp only [Act.put, List.setIfInBounds_toArray, List.set_cons_zero, List.set_cons_succ]) | (refine wpC_skip rfl (by rfl) ?_; simp only [Act.put, List.setIfInBounds_toArray, List.set_cons_zero, List.set_cons_succ]) | (refine wpC_skip' (RBut.refl_ _) rfl (by rfl) ?_; simp only [Act.put, List.setIfInBounds_toArray, List.set_cons_zero, List.set_cons_succ]))
          refine wpC_nil ?_
          go_wp2
          go_roundw
          case rel => exact ⟨q + 1, by omega, by go_num, hr8, hbx⟩
          case measure => simp [intOf]; omega
        · have r1 : ¬ (q : Int) < 4 := by omega
          have q4 : q = 4 := by omega
          have e0 : encs (zs.drop q) = [] := by rw [List.drop_eq_nil_of_le (by rw [LZ.out]; omega)]; rfl
          rw [e0] at hrq
          clear e0 q4
          go_wp2_with fail
          refine (rEnd_any p ([], 0) _ hrq).mono ?_
          rw [show stEnd ([], 0) = 0 from rfl]
          rintro e w' ⟨rfl, rfl⟩
          go_wp2
          go_ret
          exact ⟨rfl, fin3.trans (below_but (w := w3) hbq hpw fin3.size)⟩
end Go.Proofs.Ytoecbgdkbncfbaa
