/- The walk of capstanlaw1.CodeBack. -/
import Derived.Test.YtoecbgdkbncfbaaBk
import Derived.Test.YtoecbgdkbncfbaaConcat
import Derived.Test.YtoecbgdkbncfbaaRside
import Derived.Test.YtoecbgdkbncfbaaArgs
namespace Go.Proofs.Ytoecbgdkbncfbaa
open Go.RowKit
theorem sb_len {W : World} {x : Option Addr × Nat × Nat × List UInt8} (h : SB W x) : x.2.1 = x.2.2.2.length := h.2.2.2.len8
theorem str_eq_ne {a b : List UInt8} (h : a ≠ b) : ¬ (str a).toList = (str b).toList := fun he => h (str_inj.1 he)
set_option maxRecDepth 100000 in
set_option maxHeartbeats 4000000 in
theorem codeBack_walk (w : World) (A1 : Option Addr) (n1 c1 : Nat) (zs : List Int) (hnc1 : n1 ≤ c1) (hcm1 : c1 ≤ maxLen) (zb : ∀ z ∈ zs, -9223372036854775808 ≤ z ∧ z < 9223372036854775808) (sl1 : Sl w 1 A1 n1 (zs.map (Value.int .i64)))
    (A2 : Option Addr) (n2 c2 : Nat) (ss : List (Option Addr × Nat × Nat × List UInt8)) (hnc2 : n2 ≤ c2) (hcm2 : c2 ≤ maxLen) (sb : ∀ x ∈ ss, SB w x) (sl2 : Sl w 1 A2 n2 (ss.map sbv)) (h : List UInt8) (hh : h.length = 32) :
    Calls Try.prog 11 #[.slice A1 n1 c1, .slice A2 n2 c2, hv h] w (RB true w) := by
  unfold hv
  have l1 := sl1.len
  have l2 := sl2.len
  rw [List.length_map, Nat.mul_one] at l1 l2
  clear hnc1 hcm1 hnc2 hcm2
  obtain ⟨W, hW⟩ : ∃ W, W = w.alloc (.cells (B8 h).toArray 29) := ⟨_, rfl⟩
  have hbw : Below w.heap.size w W := by
    subst hW
    exact (Below.refl _ _).alloc (Nat.le_refl _) _
  have bh : Blk W w.heap.size 29 (B8 h) := by
    subst hW
    exact Blk.new w (B8 h).toArray 29
  have HW := Lib.hid hW
  have HH := Lib.hid hh
  clear hW hh
  have L1 := Lib.hid l1
  have L2 := Lib.hid l2
  clear l1 l2
  by_cases hbig : (20 : Int) < n1 ∨ (10 : Int) < n2
  · by_cases t1 : (20 : Int) < n1
    all_goals
      by_cases t2 : (10 : Int) < n2
      all_goals first
        | (exfalso; omega)
        | (clear hbig
           go_enter Try.func11, Try.ntmps11
           go_upto_region 1 with fail
           refine wp_at HW.out ?_
           clear HW
           go_wp2_with fail
           refine (known_any _).mono ?_
           rintro e w1 ⟨rfl, hb1⟩
           go_wp2
           go_ret
           exact ⟨rfl, hbw.trans (hb1.mono hbw.size)⟩)
  have hn1 : n1 ≤ 20 := by omega
  have hn2 : n2 ≤ 10 := by omega
  clear hbig
  go_enter Try.func11, Try.ntmps11
  go_upto_region 1 with fail
  refine wp_at HW.out ?_
  clear HW
  go_wp2_with fail
  refine (known_any _).mono ?_
  rintro e w1 ⟨rfl, hb1⟩
  have bh1 := bh.to hb1
  have f1 := hbw.trans (hb1.mono hbw.size)
  clear bh hb1 hbw
  go_wp2_with (first
    | (refine wpl_load_blk rfl _ _ rfl _ rfl _ _ _ bh1 Try.underlying29 rfl (info_hash HH.out) ?_))
  refine (hash_any none 0 0 [] h _ Sl.nil_ (by omega) HH.out).mono ?_
  rintro e w2 ⟨A3, n3, c3, rfl, ho3, hb3⟩
  have bh2 := bh1.to hb3
  have f2 := f1.trans (hb3.mono f1.size)
  have ho3' : Own w2 w.heap.size 5 1 A3 n3 c3 (B8 (h ++ encI (zs.take 0))) := by
    have := ho3.mono (B' := w.heap.size) f1.size
    simpa [encI] using this
  clear ho3 hb3 f1 bh1
  go_wp2_with fail
  go_loopw [7, 8] (fun b i wr => ∃ (m : Nat) (A : Option Addr) (n c : Nat), i = .int .i64 m ∧ m ≤ n1 ∧ b = .slice A n c ∧ Own wr w.heap.size 5 1 A n c (B8 (h ++ encI (zs.take m))) ∧ Blk wr w.heap.size 29 (B8 h) ∧ Below w.heap.size w wr) (fun _ i _ => n1 - (intOf i).toNat)
  case atStart => exact ⟨0, A3, n3, c3, rfl, by omega, rfl, ho3', bh2, f2⟩
  case round =>
    clear ho3' bh2 f2
    obtain ⟨m, A, n, c, rfl, hm, rfl, ho, hbk, hf⟩ := hrel
    have hn8 := ho.len8
    have hle := encI_len (zs.take m) (fun z hz => zb z (List.mem_of_mem_take hz))
    have hnb : n ≤ 300 := by
      rw [hn8]
      simp only [List.length_append, HH.out, List.length_take] at hle ⊢
      omega
    clear hn8 hle
    by_cases hlt : m < n1
    · obtain ⟨z, hz⟩ : ∃ z, zs[m]? = some z := ⟨_, List.getElem?_eq_getElem (by rw [L1.out]; exact hlt)⟩
      obtain ⟨z_lo, z_hi⟩ := zb z (List.mem_of_getElem? hz)
      have sw1 := sl1.to hf
      obtain ⟨b1, o1, rfl, hb1⟩ := sw1.some_ (by omega)
      have cz := sw1.cell (k := m) (u := .int .i64 z) (by simp [hz])
      have hnext : encI (zs.take (m + 1)) = encI (zs.take m) ++ enc (zig z) := by
        rw [List.take_add_one, hz]
        exact encI_snoc _ _
      have HN := Lib.hid hnext
      clear hz sw1 hnext
      go_wp2_with fail
      refine (int_any A n c _ z _ ho.sl (by omega) z_lo z_hi).mono ?_
      rintro e w4 ⟨A4, n4, c4, rfl, ho4, hb4⟩
      have ho5 : Own w4 w.heap.size 5 1 A4 n4 c4 (B8 (h ++ encI (zs.take (m + 1)))) := by
        rw [HN.out, ← List.append_assoc]
        exact ho4.mono hf.size
      have hbk4 := hbk.to hb4
      have hf4 := hf.trans (hb4.mono hf.size)
      clear ho4 ho hbk
      go_wp2_with fail
      go_roundw
      case rel => exact ⟨m + 1, A4, n4, c4, by go_num, by omega, rfl, ho5, hbk4, hf4⟩
      case measure => simp [intOf]; omega
    · obtain rfl : n1 = m := by omega
      have e1 : zs.take n1 = zs := List.take_of_length_le (by rw [L1.out]; exact Nat.le_refl _)
      have ho6 : Own wr w.heap.size 5 1 A n c (B8 (h ++ encI zs ++ encT ((ss.take 0).map (·.2.2.2)))) := by
        rw [e1] at ho
        simpa [encT] using ho
      have hle := encI_len zs zb
      rw [L1.out] at hle
      have HLE := Lib.hid hle
      clear e1 ho hle hnb
      go_wp2_with fail
      go_loopw [7, 9] (fun b i wr => ∃ (m : Nat) (A : Option Addr) (n c : Nat), i = .int .i64 m ∧ m ≤ n2 ∧ b = .slice A n c ∧ Own wr w.heap.size 5 1 A n c (B8 (h ++ encI zs ++ encT ((ss.take m).map (·.2.2.2)))) ∧ Blk wr w.heap.size 29 (B8 h) ∧ Below w.heap.size w wr ∧ ∀ x ∈ ss.take m, x.2.2.2.length ≤ 200) (fun _ i _ => n2 - (intOf i).toNat)
      case atStart => exact ⟨0, A, n, c, rfl, by omega, rfl, ho6, hbk, hf, by simp⟩
      case round =>
        clear ho6 hbk hf
        obtain ⟨m, A, n, c, rfl, hm, rfl, ho, hbk, hf, hall⟩ := hrel
        have hn8 := ho.len8
        have hle2 := encT_len ((ss.take m).map (·.2.2.2)) (by intro t ht; obtain ⟨x, hx, rfl⟩ := List.mem_map.1 ht; exact hall x hx)
        have hnb : n ≤ 5000 := by
          have := HLE.out
          rw [hn8]
          simp only [List.length_append, HH.out, List.length_take, List.length_map] at hle2 ⊢
          omega
        clear hn8 hle2
        have HALL := Lib.hid hall
        clear hall
        by_cases hlt : m < n2
        · obtain ⟨x, hx⟩ : ∃ x, ss[m]? = some x := ⟨_, List.getElem?_eq_getElem (by rw [L2.out]; exact hlt)⟩
          have sbx := sb x (List.mem_of_getElem? hx)
          have hx8 := sb_len sbx
          have slx := sbx.2.2.2.to hf
          have sw2 := sl2.to hf
          obtain ⟨b2, o2, rfl, hb2⟩ := sw2.some_ (by omega)
          have cz := sw2.cell (k := m) (u := sbv x) (by simp [hx])
          unfold sbv at cz
          have hnext : encT ((ss.take (m + 1)).map (·.2.2.2)) = encT ((ss.take m).map (·.2.2.2)) ++ enc (zig (x.2.1 : Int)) ++ x.2.2.2 := by
            rw [List.take_add_one, hx, hx8, Option.toList_some, List.map_append]
            exact encT_snoc _ _
          have hall2 : x.2.2.2.length ≤ 200 → ∀ y ∈ ss.take (m + 1), y.2.2.2.length ≤ 200 := by
            intro h0 y hy
            rw [List.take_add_one, hx] at hy
            rcases List.mem_append.1 hy with hy | hy
            · exact HALL.out y hy
            · simp at hy; subst hy; exact h0
          have HA2 := Lib.hid hall2
          have HN := Lib.hid hnext
          have HX8 := Lib.hid hx8
          clear hx sw2 hnext hall2 hx8 sbx
          generalize x.2.1 = nx at *
          generalize x.2.2.1 = cx at *
          generalize x.1 = Ax at *
          generalize x.2.2.2 = bx at *
          by_cases hx200 : (200 : Int) < nx
          · go_wp2_with fail
            go_ret
            exact ⟨rfl, hf⟩
          · go_wp2_with fail
            refine (text_any A n c _ Ax nx cx bx _ ho.sl slx (by omega) (by omega)).mono ?_
            rintro e w4 ⟨A4, n4, c4, rfl, ho4, hb4⟩
            have ho5 : Own w4 w.heap.size 5 1 A4 n4 c4 (B8 (h ++ encI zs ++ encT ((ss.take (m + 1)).map (·.2.2.2)))) := by
              rw [HN.out, ← List.append_assoc, ← List.append_assoc]
              exact ho4.mono hf.size
            have hbk4 := hbk.to hb4
            have hf4 := hf.trans (hb4.mono hf.size)
            have hb3 := HA2.out (by rw [← HX8.out]; omega)
            have HB3 := Lib.hid hb3
            clear ho4 ho hbk hb3
            go_wp2_with fail
            go_roundw
            case rel => exact ⟨m + 1, A4, n4, c4, by go_num, by omega, rfl, ho5, hbk4, hf4, HB3.out⟩
            case measure => simp [intOf]; omega
        · obtain rfl : n2 = m := by omega
          have e2 : ss.take n2 = ss := List.take_of_length_le (by rw [L2.out]; exact Nat.le_refl _)
          obtain ⟨bs, hbs⟩ : ∃ bs, bs = h ++ encI zs ++ encT (ss.map (·.2.2.2)) := ⟨_, rfl⟩
          have ho6 : Sl wr 1 A n (B8 bs) := by
            rw [e2] at ho
            rw [hbs]
            exact ho.sl
          have hall : ∀ t ∈ ss.map (·.2.2.2), t.length ≤ 200 := by
            intro t ht
            obtain ⟨x, hx, rfl⟩ := List.mem_map.1 ht
            have := HALL.out x
            rw [e2] at this
            exact this hx
          have hn32 : 32 ≤ n := by
            rw [ho6.len8, hbs]
            simp [HH.out]
          have hle := ho.le
          obtain ⟨bA, oA, rfl, hbA⟩ := ho6.some_ (by omega)
          have hba : w.heap.size ≤ bA := (ho.lt bA rfl).1
          have B1 := fun r => back_ok h zs (ss.map (·.2.2.2)) r HH.out zb hall
          rw [← hbs] at B1
          have B2 := fun l x hl => back_cut h zs (ss.map (·.2.2.2)) l x HH.out zb hall hl
          rw [← hbs] at B2
          have BO := Lib.hid B1
          have BC := Lib.hid B2
          have hn8 := ho6.len8
          have HN8 := Lib.hid hn8
          clear e2 ho hbs hall B1 B2 HALL HLE hn8
          go_wp2_with fail
          go_loopw [10] (fun k wr => ∃ (m : Nat), k = .int .i64 m ∧ m ≤ 3 ∧ Sl wr 1 (some ⟨bA, oA, none⟩) n (B8 bs) ∧ Blk wr w.heap.size 29 (B8 h) ∧ Below w.heap.size w wr) (fun k _ => 3 - (intOf k).toNat)
          case atStart => exact ⟨0, rfl, by omega, ho6, hbk, hf⟩
          case round =>
            clear ho6 hbk hf hbA
            obtain ⟨m, rfl, hm3, sA, hbk, hf⟩ := hrel
            obtain ⟨wo, rfl⟩ : ∃ wo : World, wo = wr := ⟨_, rfl⟩
            have hm4 : m = 0 ∨ m = 1 ∨ m = 2 ∨ m = 3 := by omega
            rcases hm4 with rfl | rfl | rfl | rfl
            · go_wp2_with fail
              obtain ⟨xb, hxb⟩ : ∃ xb, xb = bs := ⟨_, rfl⟩
              have sX : Sl wo 1 (some ⟨bA, oA, none⟩) n (B8 xb) := by rw [hxb]; exact sA
              have FIN : Hid ((ss.map (·.2.2.2)).foldl stepT (zs.foldl stepI (stepH xb h)) = (([], 0), true)) := (by
                show _ = _
                have := BO.out []
                rw [List.append_nil] at this
                rw [hxb, this])
              have hbx : Below wo.heap.size wo wo := Below.refl _ _
              refine (new_any (some ⟨bA, oA, none⟩) n c xb _ sX (by omega)).mono ?_

              rintro e w8 ⟨p, rfl, hp, hr8, hb8⟩
              have hpw : wo.heap.size ≤ p := Nat.le_trans hbx.size hp
              have f8 : Below wo.heap.size wo w8 := hbx.trans (hb8.mono hbx.size)
              have hbk8 := hbk.to f8
              have sA8 := sA.to f8
              clear sX hb8 hbx hxb
              go_wp2_with fail
              refine wp_region_C [(0, true), (2, true), (1, false), (3, false), (4, false)] (RBut (some p)) (by kernel_rfl) (by kernel_rfl) (by kernel_rfl) (by decide) (RBut.refl_ _) (RBut.trans_ _) (by intro d v c a w h; cases d <;> exact h) ?_
              have hrd : Rd w8.drew p xb 0 := hr8.keep (Below.refl _ _).drew
              have f9 : Below wo.heap.size wo w8.drew := f8.drew
              have hph : w.heap.size ≠ p := by have := hbk.lt; omega
              have hpb : bA ≠ p := by have := sA.some_ (by omega); obtain ⟨_, _, e, hl⟩ := this; injection e with e; injection e with e; omega
              have rg : ∀ w', RBut (some p) w8.drew w' → w'.rangeAt w.heap.size 0 (B8 h) := fun w' hw' => (Blk.but (w := w8.drew) (hbk.to f9) hw' (fun h => by injection h; omega)).range
              clear hr8 f8 hbk8 sA8
              generalize w8.drew = w9 at *
              repeat (first | (refine wpC_quiet (v := ?_) rfl (by rfl) ?_ ?_; rotate_left; (· (intro w' hw'; go_simp; try with_reducible rfl)); simp only [Act.put, List.setIfInBounds_toArray, List.set_cons_zero, List.set_cons_succ]) | (refine wpC_val (v := ?_) (RBut.refl_ _) rfl (by rfl) ?_ ?_; rotate_left; (· (go_simp; try with_reducible rfl)); simp only [Act.put, List.setIfInBounds_toArray, List.set_cons_zero, List.set_cons_succ]) | (refine wpC_skip rfl (by rfl) ?_; simp only [Act.put, List.setIfInBounds_toArray, List.set_cons_zero, List.set_cons_succ]) | (refine wpC_skip' (RBut.refl_ _) rfl (by rfl) ?_; simp only [Act.put, List.setIfInBounds_toArray, List.set_cons_zero, List.set_cons_succ]))
              refine wpC_load rfl (by rfl) _ _ rfl w.heap.size 0 rfl (B8 h) _ rg Try.underlying29 rfl (info_hash HH.out) ?_
              simp only [Act.put, List.setIfInBounds_toArray, List.set_cons_zero, List.set_cons_succ]
              (refine wpC_loud rfl (by rfl) ?_; intro K hK; go_simp)
              refine (rHash_any p (xb, 0) _ hrd).mono ?_
              rintro e w10 ⟨rfl, hr10, hb10⟩
              (refine hK.out _ _ (hb10) ?_; clear hK K; try simp only [Act.put, List.setIfInBounds_toArray, List.set_cons_zero, List.set_cons_succ])
              have f10 := f9.trans (below_but hb10 hpw f9.size)
              have hstep : Hid ((stHash (xb, 0)).2 = (stepH xb h).1 ∧ decide ((stHash (xb, 0)).1 = h) = (stepH xb h).2) := ⟨rfl, rfl⟩
              have eh := eq_hash (stHash (xb, 0)).1 h (stHash_len _) HH.out
              rw [hstep.out.2] at eh
              rw [hstep.out.1] at hr10
              unfold hv
              generalize (stHash (xb, 0)).1 = h1 at *
              generalize hs0 : stepH xb h = s0 at *
              clear hstep hs0 rg hrd f9 hb10
              repeat (first | (refine wpC_quiet (v := ?_) rfl (by rfl) ?_ ?_; rotate_left; (· (intro w' hw'; go_simp; try with_reducible rfl)); simp only [Act.put, List.setIfInBounds_toArray, List.set_cons_zero, List.set_cons_succ]) | (refine wpC_val (v := ?_) (RBut.refl_ _) rfl (by rfl) ?_ ?_; rotate_left; (· (go_simp; try with_reducible rfl)); simp only [Act.put, List.setIfInBounds_toArray, List.set_cons_zero, List.set_cons_succ]) | (refine wpC_skip rfl (by rfl) ?_; simp only [Act.put, List.setIfInBounds_toArray, List.set_cons_zero, List.set_cons_succ]) | (refine wpC_skip' (RBut.refl_ _) rfl (by rfl) ?_; simp only [Act.put, List.setIfInBounds_toArray, List.set_cons_zero, List.set_cons_succ]))
              refine wpC_nil ?_
              clear eh
              go_wp2_with fail
              go_loopw [13, 14] (fun o i wr => ∃ (m : Nat) (s : (List UInt8 × Int) × Bool), i = .int .i64 m ∧ m ≤ n1 ∧ o = .bool s.2 ∧ s = (zs.take m).foldl stepI s0 ∧ Rd wr p s.1.1 s.1.2 ∧ Below wo.heap.size wo wr) (fun _ i _ => n1 - (intOf i).toNat)
              case atStart => exact ⟨0, s0, rfl, by omega, rfl, rfl, hr10, f10⟩
              case round =>
                clear hr10 f10
                obtain ⟨m, s, rfl, hm, rfl, hs, hr, hfx⟩ := hrel
                have HS := Lib.hid hs
                clear hs
                obtain ⟨s, ok⟩ := s
                by_cases hlt : m < n1
                · obtain ⟨z, hz⟩ : ∃ z, zs[m]? = some z := ⟨_, List.getElem?_eq_getElem (by rw [L1.out]; exact hlt)⟩
                  have hf2 := hf.trans (hfx.mono hf.size)
                  have sw1 := sl1.to hf2
                  obtain ⟨b1, o1, rfl, hb1⟩ := sw1.some_ (by omega)
                  go_wp2_with fail
                  have czd : ∀ w', RBut (some p) wr.drew w' → w'.cell? ⟨b1, o1 + m, none⟩ = some (.int .i64 z) := fun w' hw' => (sl1.to (hf2.drew.trans (below_but hw' (Nat.le_trans hf.size hpw) hf2.size))).cell (k := m) (by simp [hz])
                  have hnext : (zs.take (m + 1)).foldl stepI s0 = stepI (s, ok) z := by
                    rw [List.take_add_one, hz, List.foldl_append, ← HS.out]
                    rfl
                  have HN := Lib.hid hnext
                  have hrd : Rd wr.drew p s.1 s.2 := hr.keep (Below.refl _ _).drew
                  have hfd : Below wo.heap.size wo wr.drew := hfx.drew
                  have ti : (m : Int) < (n1 : Int) := by omega
                  clear hr hfx hf2 sw1 hnext hz
                  rcases Bool.eq_false_or_eq_true ((stInt s).1 == z) with hv1 | hv1
                  all_goals
                    refine wp_region_C [(0, true), (2, true), (3, true), (4, true), (5, true), (1, false), (6, false), (7, false), (8, false), (9, false), (10, false)] (RBut (some p)) (by kernel_rfl) (by kernel_rfl) (by kernel_rfl) (by decide) (RBut.refl_ _) (RBut.trans_ _) (by intro d v c a w h; cases d <;> exact h) ?_
                    generalize wr.drew = wd at *
                    repeat (first | (refine wpC_quiet (v := ?_) rfl (by rfl) ?_ ?_; rotate_left; (· (intro w' hw'; go_simp; try with_reducible rfl)); simp only [Act.put, List.setIfInBounds_toArray, List.set_cons_zero, List.set_cons_succ]) | (refine wpC_val (v := ?_) (RBut.refl_ _) rfl (by rfl) ?_ ?_; rotate_left; (· (go_simp; try with_reducible rfl)); simp only [Act.put, List.setIfInBounds_toArray, List.set_cons_zero, List.set_cons_succ]) | (refine wpC_skip rfl (by rfl) ?_; simp only [Act.put, List.setIfInBounds_toArray, List.set_cons_zero, List.set_cons_succ]) | (refine wpC_skip' (RBut.refl_ _) rfl (by rfl) ?_; simp only [Act.put, List.setIfInBounds_toArray, List.set_cons_zero, List.set_cons_succ]))
                    (refine wpC_loud rfl (by rfl) ?_; intro K hK; go_simp)
                    refine (rInt_any p s _ hrd).mono ?_
                    rintro e w11 ⟨rfl, hr11, hb11⟩
                    (refine hK.out _ _ (hb11) ?_; clear hK K; try simp only [Act.put, List.setIfInBounds_toArray, List.set_cons_zero, List.set_cons_succ])
                    have f11 := hfd.trans (below_but hb11 hpw hfd.size)
                    clear czd hrd hfd hb11
                    repeat (first | (refine wpC_quiet (v := ?_) rfl (by rfl) ?_ ?_; rotate_left; (· (intro w' hw'; go_simp; try with_reducible rfl)); simp only [Act.put, List.setIfInBounds_toArray, List.set_cons_zero, List.set_cons_succ]) | (refine wpC_val (v := ?_) (RBut.refl_ _) rfl (by rfl) ?_ ?_; rotate_left; (· (go_simp; try with_reducible rfl)); simp only [Act.put, List.setIfInBounds_toArray, List.set_cons_zero, List.set_cons_succ]) | (refine wpC_skip rfl (by rfl) ?_; simp only [Act.put, List.setIfInBounds_toArray, List.set_cons_zero, List.set_cons_succ]) | (refine wpC_skip' (RBut.refl_ _) rfl (by rfl) ?_; simp only [Act.put, List.setIfInBounds_toArray, List.set_cons_zero, List.set_cons_succ]))
                    refine wpC_nil ?_
                    go_wp2_with fail
                    go_roundw
                    case rel => exact ⟨m + 1, stepI (s, ok) z, by go_num, by omega, by simp [stepI, *], HN.out.symm, hr11, f11⟩
                    case measure => simp [intOf]; omega
                · obtain rfl : n1 = m := by omega
                  have e1 : zs.take n1 = zs := List.take_of_length_le (by rw [L1.out]; exact Nat.le_refl _)
                  have hs1 : (s, ok) = zs.foldl stepI s0 := by rw [← e1]; exact HS.out
                  rw [← hs1] at FIN
                  clear HS e1 hs1
                  go_wp2_with fail
                  go_loopw [13, 15] (fun o i wr => ∃ (m : Nat) (s' : (List UInt8 × Int) × Bool), i = .int .i64 m ∧ m ≤ n2 ∧ o = .bool s'.2 ∧ s' = ((ss.take m).map (·.2.2.2)).foldl stepT (s, ok) ∧ Rd wr p s'.1.1 s'.1.2 ∧ Below wo.heap.size wo wr) (fun _ i _ => n2 - (intOf i).toNat)
                  case atStart => exact ⟨0, (s, ok), rfl, by omega, rfl, rfl, hr, hfx⟩
                  case round =>
                    clear hr hfx
                    obtain ⟨m, s', rfl, hm, rfl, hs, hr, hfx⟩ := hrel
                    have HS := Lib.hid hs
                    clear hs
                    obtain ⟨t, ok'⟩ := s'
                    by_cases hlt : m < n2
                    · obtain ⟨x, hx⟩ : ∃ x, ss[m]? = some x := ⟨_, List.getElem?_eq_getElem (by rw [L2.out]; exact hlt)⟩
                      have sbx := sb x (List.mem_of_getElem? hx)
                      have hf2 := hf.trans (hfx.mono hf.size)
                      have sw2 := sl2.to hf2
                      obtain ⟨b2, o2, rfl, hb2⟩ := sw2.some_ (by omega)
                      go_wp2_with fail
                      have slx := sbx.2.2.2.to hf2.drew
                      have cxd : ∀ w', RBut (some p) wr.drew w' → w'.cell? ⟨b2, o2 + m, none⟩ = some (.slice x.1 x.2.1 x.2.2.1) := fun w' hw' => (sl2.to (hf2.drew.trans (below_but hw' (Nat.le_trans hf.size hpw) hf2.size))).cell (k := m) (u := sbv x) (by simp [hx])
                      have cvd : ∀ w', RBut (some p) wr.drew w' → (convert 24 9 (.slice x.1 x.2.1 x.2.2.1)).run Try.prog w' = .ok (.string (str x.2.2.2)) w' := fun w' hw' =>
                        conv_str Try.underlying24 Try.underlying5 Try.underlying9 (sbx.2.2.2.to (hf2.drew.trans (below_but hw' (Nat.le_trans hf.size hpw) hf2.size)))
                      have hnext : ((ss.take (m + 1)).map (·.2.2.2)).foldl stepT (s, ok) = stepT (t, ok') x.2.2.2 := by
                        rw [List.take_add_one, hx, List.map_append, List.foldl_append, ← HS.out]
                        rfl
                      have HN := Lib.hid hnext
                      have hrd : Rd wr.drew p t.1 t.2 := hr.keep (Below.refl _ _).drew
                      have hfd : Below wo.heap.size wo wr.drew := hfx.drew
                      have ti : (m : Int) < (n2 : Int) := by omega
                      clear hr hfx hf2 sw2 hnext hx sbx slx
                      generalize x.2.1 = nx at *
                      generalize x.2.2.1 = cx at *
                      generalize x.1 = Ax at *
                      generalize x.2.2.2 = bx at *
                      have hstr : decide ((stText t).1 = bx) = ((str (stText t).1).toList == (str bx).toList) := by
                        rw [Bool.eq_iff_iff]
                        simp [str_inj]
                      have HSTR := Lib.hid hstr
                      clear hstr
                      rcases Bool.eq_false_or_eq_true ((str (stText t).1).toList == (str bx).toList) with hv1 | hv1
                      all_goals
                        refine wp_region_C [(0, true), (3, true), (4, true), (5, true), (6, true), (7, true), (1, false), (2, false), (8, false), (9, false), (10, false), (11, false), (12, false)] (RBut (some p)) (by kernel_rfl) (by kernel_rfl) (by kernel_rfl) (by decide) (RBut.refl_ _) (RBut.trans_ _) (by intro d v c a w h; cases d <;> exact h) ?_
                        generalize wr.drew = wd at *
                        repeat (first | (refine wpC_quiet (v := ?_) rfl (by rfl) ?_ ?_; rotate_left; (· (intro w' hw'; go_simp; try with_reducible rfl)); simp only [Act.put, List.setIfInBounds_toArray, List.set_cons_zero, List.set_cons_succ]) | (refine wpC_val (v := ?_) (RBut.refl_ _) rfl (by rfl) ?_ ?_; rotate_left; (· (go_simp; try with_reducible rfl)); simp only [Act.put, List.setIfInBounds_toArray, List.set_cons_zero, List.set_cons_succ]) | (refine wpC_skip rfl (by rfl) ?_; simp only [Act.put, List.setIfInBounds_toArray, List.set_cons_zero, List.set_cons_succ]) | (refine wpC_skip' (RBut.refl_ _) rfl (by rfl) ?_; simp only [Act.put, List.setIfInBounds_toArray, List.set_cons_zero, List.set_cons_succ]))
                        (refine wpC_loud rfl (by rfl) ?_; intro K hK; go_simp)
                        refine (rText_any p t _ hrd).mono ?_
                        rintro e w11 ⟨A6, n6, c6, rfl, ho11, hr11, hb11⟩
                        (refine hK.out _ _ (hb11) ?_; clear hK K; try simp only [Act.put, List.setIfInBounds_toArray, List.set_cons_zero, List.set_cons_succ])
                        have f11 := hfd.trans (below_but hb11 hpw hfd.size)
                        have cv := conv_str (c := c6) Try.underlying24 Try.underlying5 Try.underlying9 ho11.sl
                        clear hrd hfd hb11
                        repeat (first | (refine wpC_quiet (v := ?_) rfl (by rfl) ?_ ?_; rotate_left; (· (intro w' hw'; go_simp; try with_reducible rfl)); simp only [Act.put, List.setIfInBounds_toArray, List.set_cons_zero, List.set_cons_succ]) | (refine wpC_val (v := ?_) (RBut.refl_ _) rfl (by rfl) ?_ ?_; rotate_left; (· (go_simp; try with_reducible rfl)); simp only [Act.put, List.setIfInBounds_toArray, List.set_cons_zero, List.set_cons_succ]) | (refine wpC_skip rfl (by rfl) ?_; simp only [Act.put, List.setIfInBounds_toArray, List.set_cons_zero, List.set_cons_succ]) | (refine wpC_skip' (RBut.refl_ _) rfl (by rfl) ?_; simp only [Act.put, List.setIfInBounds_toArray, List.set_cons_zero, List.set_cons_succ]))
                        refine wpC_nil ?_
                        clear cv cxd cvd
                        go_wp2_with fail
                        go_roundw
                        case rel => exact ⟨m + 1, stepT (t, ok') bx, by go_num, by omega, by simp only [stepT, HSTR.out, hv1, Bool.true_and, Bool.false_and], HN.out.symm, hr11, f11⟩
                        case measure => simp [intOf]; omega
                    · obtain rfl : n2 = m := by omega
                      have e1 : ss.take n2 = ss := List.take_of_length_le (by rw [L2.out]; exact Nat.le_refl _)
                      rw [e1] at HS
                      rw [← HS.out] at FIN
                      clear HS e1
                      go_wp2_with fail
                      obtain ⟨rfl, rfl⟩ : t = ([], 0) ∧ ok' = true := by simpa using FIN.out
                      refine (rEnd_any p ([], 0) _ hr).mono ?_
                      rw [show stEnd ([], 0) = 0 from rfl]

                      rintro e w' ⟨rfl, rfl⟩
                      go_wp2_with fail
                      go_roundw
                      case rel => exact ⟨1, rfl, by omega, sA.to hfx, hbk.to hfx, hf.trans (hfx.mono hf.size)⟩
                      case measure => simp [intOf]
            · have sE := Own.made wo wo.heap.size 5 #[] (Nat.le_refl _) (Nat.zero_le _) (by simp) (size := 1) (n := 0)
              go_wp2_with (first
                | (at_builtin
                   refine wpl_app _ _ _ _ elB (a := ⟨_, _⟩) (A := some ⟨wo.heap.size, 0, none⟩) rfl rfl rfl sE rfl (sA.alloc _) (B8_one _) (by omega) (by omega) (by simp) ?_
                   intro A6 c6 w6 g6
                   have o6 : Own w6 wo.heap.size 5 1 A6 n c6 (B8 bs) := by have := g6.own; simp only [Nat.zero_add, List.nil_append] at this; exact this
                   have h6 : Below wo.heap.size wo w6 := ((Below.refl _ _).alloc (Nat.le_refl _) _).trans (g6.below sE (by simp))
                   rw [Nat.zero_add]
                   have HO6 := Lib.hid o6
                   clear g6 o6 sE)
                | (at_builtin
                   refine wpl_push8 _ _ _ elB rfl rfl rfl HO6.out rfl 7 rfl (by omega) h6.size ?_
                   intro A7 c7 w7 o7 h7 g7 _
                   have HO7 := Lib.hid o7
                   clear g7 o7))
              obtain ⟨xb, hxb⟩ : ∃ xb, xb = bs ++ [7] := ⟨_, rfl⟩
              have sX : Sl w7 1 A7 (n + 1) (B8 xb) := by rw [hxb]; exact HO7.out.sl
              have FIN : Hid ((ss.map (·.2.2.2)).foldl stepT (zs.foldl stepI (stepH xb h)) = (([7], 0), true)) := (by
                show _ = _
                rw [hxb, BO.out [7]])
              have hbx : Below wo.heap.size wo w7 := h6.trans h7
              refine (new_any A7 (n + 1) c7 xb _ sX (by omega)).mono ?_

              rintro e w8 ⟨p, rfl, hp, hr8, hb8⟩
              have hpw : wo.heap.size ≤ p := Nat.le_trans hbx.size hp
              have f8 : Below wo.heap.size wo w8 := hbx.trans (hb8.mono hbx.size)
              have hbk8 := hbk.to f8
              have sA8 := sA.to f8
              clear sX hb8 hbx hxb
              go_wp2_with fail
              refine wp_region_C [(0, true), (2, true), (1, false), (3, false), (4, false)] (RBut (some p)) (by kernel_rfl) (by kernel_rfl) (by kernel_rfl) (by decide) (RBut.refl_ _) (RBut.trans_ _) (by intro d v c a w h; cases d <;> exact h) ?_
              have hrd : Rd w8.drew p xb 0 := hr8.keep (Below.refl _ _).drew
              have f9 : Below wo.heap.size wo w8.drew := f8.drew
              have hph : w.heap.size ≠ p := by have := hbk.lt; omega
              have hpb : bA ≠ p := by have := sA.some_ (by omega); obtain ⟨_, _, e, hl⟩ := this; injection e with e; injection e with e; omega
              have rg : ∀ w', RBut (some p) w8.drew w' → w'.rangeAt w.heap.size 0 (B8 h) := fun w' hw' => (Blk.but (w := w8.drew) (hbk.to f9) hw' (fun h => by injection h; omega)).range
              clear hr8 f8 hbk8 sA8
              generalize w8.drew = w9 at *
              repeat (first | (refine wpC_quiet (v := ?_) rfl (by rfl) ?_ ?_; rotate_left; (· (intro w' hw'; go_simp; try with_reducible rfl)); simp only [Act.put, List.setIfInBounds_toArray, List.set_cons_zero, List.set_cons_succ]) | (refine wpC_val (v := ?_) (RBut.refl_ _) rfl (by rfl) ?_ ?_; rotate_left; (· (go_simp; try with_reducible rfl)); simp only [Act.put, List.setIfInBounds_toArray, List.set_cons_zero, List.set_cons_succ]) | (refine wpC_skip rfl (by rfl) ?_; simp only [Act.put, List.setIfInBounds_toArray, List.set_cons_zero, List.set_cons_succ]) | (refine wpC_skip' (RBut.refl_ _) rfl (by rfl) ?_; simp only [Act.put, List.setIfInBounds_toArray, List.set_cons_zero, List.set_cons_succ]))
              refine wpC_load rfl (by rfl) _ _ rfl w.heap.size 0 rfl (B8 h) _ rg Try.underlying29 rfl (info_hash HH.out) ?_
              simp only [Act.put, List.setIfInBounds_toArray, List.set_cons_zero, List.set_cons_succ]
              (refine wpC_loud rfl (by rfl) ?_; intro K hK; go_simp)
              refine (rHash_any p (xb, 0) _ hrd).mono ?_
              rintro e w10 ⟨rfl, hr10, hb10⟩
              (refine hK.out _ _ (hb10) ?_; clear hK K; try simp only [Act.put, List.setIfInBounds_toArray, List.set_cons_zero, List.set_cons_succ])
              have f10 := f9.trans (below_but hb10 hpw f9.size)
              have hstep : Hid ((stHash (xb, 0)).2 = (stepH xb h).1 ∧ decide ((stHash (xb, 0)).1 = h) = (stepH xb h).2) := ⟨rfl, rfl⟩
              have eh := eq_hash (stHash (xb, 0)).1 h (stHash_len _) HH.out
              rw [hstep.out.2] at eh
              rw [hstep.out.1] at hr10
              unfold hv
              generalize (stHash (xb, 0)).1 = h1 at *
              generalize hs0 : stepH xb h = s0 at *
              clear hstep hs0 rg hrd f9 hb10
              repeat (first | (refine wpC_quiet (v := ?_) rfl (by rfl) ?_ ?_; rotate_left; (· (intro w' hw'; go_simp; try with_reducible rfl)); simp only [Act.put, List.setIfInBounds_toArray, List.set_cons_zero, List.set_cons_succ]) | (refine wpC_val (v := ?_) (RBut.refl_ _) rfl (by rfl) ?_ ?_; rotate_left; (· (go_simp; try with_reducible rfl)); simp only [Act.put, List.setIfInBounds_toArray, List.set_cons_zero, List.set_cons_succ]) | (refine wpC_skip rfl (by rfl) ?_; simp only [Act.put, List.setIfInBounds_toArray, List.set_cons_zero, List.set_cons_succ]) | (refine wpC_skip' (RBut.refl_ _) rfl (by rfl) ?_; simp only [Act.put, List.setIfInBounds_toArray, List.set_cons_zero, List.set_cons_succ]))
              refine wpC_nil ?_
              clear eh
              go_wp2_with fail
              go_loopw [13, 14] (fun o i wr => ∃ (m : Nat) (s : (List UInt8 × Int) × Bool), i = .int .i64 m ∧ m ≤ n1 ∧ o = .bool s.2 ∧ s = (zs.take m).foldl stepI s0 ∧ Rd wr p s.1.1 s.1.2 ∧ Below wo.heap.size wo wr) (fun _ i _ => n1 - (intOf i).toNat)
              case atStart => exact ⟨0, s0, rfl, by omega, rfl, rfl, hr10, f10⟩
              case round =>
                clear hr10 f10
                obtain ⟨m, s, rfl, hm, rfl, hs, hr, hfx⟩ := hrel
                have HS := Lib.hid hs
                clear hs
                obtain ⟨s, ok⟩ := s
                by_cases hlt : m < n1
                · obtain ⟨z, hz⟩ : ∃ z, zs[m]? = some z := ⟨_, List.getElem?_eq_getElem (by rw [L1.out]; exact hlt)⟩
                  have hf2 := hf.trans (hfx.mono hf.size)
                  have sw1 := sl1.to hf2
                  obtain ⟨b1, o1, rfl, hb1⟩ := sw1.some_ (by omega)
                  go_wp2_with fail
                  have czd : ∀ w', RBut (some p) wr.drew w' → w'.cell? ⟨b1, o1 + m, none⟩ = some (.int .i64 z) := fun w' hw' => (sl1.to (hf2.drew.trans (below_but hw' (Nat.le_trans hf.size hpw) hf2.size))).cell (k := m) (by simp [hz])
                  have hnext : (zs.take (m + 1)).foldl stepI s0 = stepI (s, ok) z := by
                    rw [List.take_add_one, hz, List.foldl_append, ← HS.out]
                    rfl
                  have HN := Lib.hid hnext
                  have hrd : Rd wr.drew p s.1 s.2 := hr.keep (Below.refl _ _).drew
                  have hfd : Below wo.heap.size wo wr.drew := hfx.drew
                  have ti : (m : Int) < (n1 : Int) := by omega
                  clear hr hfx hf2 sw1 hnext hz
                  rcases Bool.eq_false_or_eq_true ((stInt s).1 == z) with hv1 | hv1
                  all_goals
                    refine wp_region_C [(0, true), (2, true), (3, true), (4, true), (5, true), (1, false), (6, false), (7, false), (8, false), (9, false), (10, false)] (RBut (some p)) (by kernel_rfl) (by kernel_rfl) (by kernel_rfl) (by decide) (RBut.refl_ _) (RBut.trans_ _) (by intro d v c a w h; cases d <;> exact h) ?_
                    generalize wr.drew = wd at *
                    repeat (first | (refine wpC_quiet (v := ?_) rfl (by rfl) ?_ ?_; rotate_left; (· (intro w' hw'; go_simp; try with_reducible rfl)); simp only [Act.put, List.setIfInBounds_toArray, List.set_cons_zero, List.set_cons_succ]) | (refine wpC_val (v := ?_) (RBut.refl_ _) rfl (by rfl) ?_ ?_; rotate_left; (· (go_simp; try with_reducible rfl)); simp only [Act.put, List.setIfInBounds_toArray, List.set_cons_zero, List.set_cons_succ]) | (refine wpC_skip rfl (by rfl) ?_; simp only [Act.put, List.setIfInBounds_toArray, List.set_cons_zero, List.set_cons_succ]) | (refine wpC_skip' (RBut.refl_ _) rfl (by rfl) ?_; simp only [Act.put, List.setIfInBounds_toArray, List.set_cons_zero, List.set_cons_succ]))
                    (refine wpC_loud rfl (by rfl) ?_; intro K hK; go_simp)
                    refine (rInt_any p s _ hrd).mono ?_
                    rintro e w11 ⟨rfl, hr11, hb11⟩
                    (refine hK.out _ _ (hb11) ?_; clear hK K; try simp only [Act.put, List.setIfInBounds_toArray, List.set_cons_zero, List.set_cons_succ])
                    have f11 := hfd.trans (below_but hb11 hpw hfd.size)
                    clear czd hrd hfd hb11
                    repeat (first | (refine wpC_quiet (v := ?_) rfl (by rfl) ?_ ?_; rotate_left; (· (intro w' hw'; go_simp; try with_reducible rfl)); simp only [Act.put, List.setIfInBounds_toArray, List.set_cons_zero, List.set_cons_succ]) | (refine wpC_val (v := ?_) (RBut.refl_ _) rfl (by rfl) ?_ ?_; rotate_left; (· (go_simp; try with_reducible rfl)); simp only [Act.put, List.setIfInBounds_toArray, List.set_cons_zero, List.set_cons_succ]) | (refine wpC_skip rfl (by rfl) ?_; simp only [Act.put, List.setIfInBounds_toArray, List.set_cons_zero, List.set_cons_succ]) | (refine wpC_skip' (RBut.refl_ _) rfl (by rfl) ?_; simp only [Act.put, List.setIfInBounds_toArray, List.set_cons_zero, List.set_cons_succ]))
                    refine wpC_nil ?_
                    go_wp2_with fail
                    go_roundw
                    case rel => exact ⟨m + 1, stepI (s, ok) z, by go_num, by omega, by simp [stepI, *], HN.out.symm, hr11, f11⟩
                    case measure => simp [intOf]; omega
                · obtain rfl : n1 = m := by omega
                  have e1 : zs.take n1 = zs := List.take_of_length_le (by rw [L1.out]; exact Nat.le_refl _)
                  have hs1 : (s, ok) = zs.foldl stepI s0 := by rw [← e1]; exact HS.out
                  rw [← hs1] at FIN
                  clear HS e1 hs1
                  go_wp2_with fail
                  go_loopw [13, 15] (fun o i wr => ∃ (m : Nat) (s' : (List UInt8 × Int) × Bool), i = .int .i64 m ∧ m ≤ n2 ∧ o = .bool s'.2 ∧ s' = ((ss.take m).map (·.2.2.2)).foldl stepT (s, ok) ∧ Rd wr p s'.1.1 s'.1.2 ∧ Below wo.heap.size wo wr) (fun _ i _ => n2 - (intOf i).toNat)
                  case atStart => exact ⟨0, (s, ok), rfl, by omega, rfl, rfl, hr, hfx⟩
                  case round =>
                    clear hr hfx
                    obtain ⟨m, s', rfl, hm, rfl, hs, hr, hfx⟩ := hrel
                    have HS := Lib.hid hs
                    clear hs
                    obtain ⟨t, ok'⟩ := s'
                    by_cases hlt : m < n2
                    · obtain ⟨x, hx⟩ : ∃ x, ss[m]? = some x := ⟨_, List.getElem?_eq_getElem (by rw [L2.out]; exact hlt)⟩
                      have sbx := sb x (List.mem_of_getElem? hx)
                      have hf2 := hf.trans (hfx.mono hf.size)
                      have sw2 := sl2.to hf2
                      obtain ⟨b2, o2, rfl, hb2⟩ := sw2.some_ (by omega)
                      go_wp2_with fail
                      have slx := sbx.2.2.2.to hf2.drew
                      have cxd : ∀ w', RBut (some p) wr.drew w' → w'.cell? ⟨b2, o2 + m, none⟩ = some (.slice x.1 x.2.1 x.2.2.1) := fun w' hw' => (sl2.to (hf2.drew.trans (below_but hw' (Nat.le_trans hf.size hpw) hf2.size))).cell (k := m) (u := sbv x) (by simp [hx])
                      have cvd : ∀ w', RBut (some p) wr.drew w' → (convert 24 9 (.slice x.1 x.2.1 x.2.2.1)).run Try.prog w' = .ok (.string (str x.2.2.2)) w' := fun w' hw' =>
                        conv_str Try.underlying24 Try.underlying5 Try.underlying9 (sbx.2.2.2.to (hf2.drew.trans (below_but hw' (Nat.le_trans hf.size hpw) hf2.size)))
                      have hnext : ((ss.take (m + 1)).map (·.2.2.2)).foldl stepT (s, ok) = stepT (t, ok') x.2.2.2 := by
                        rw [List.take_add_one, hx, List.map_append, List.foldl_append, ← HS.out]
                        rfl
                      have HN := Lib.hid hnext
                      have hrd : Rd wr.drew p t.1 t.2 := hr.keep (Below.refl _ _).drew
                      have hfd : Below wo.heap.size wo wr.drew := hfx.drew
                      have ti : (m : Int) < (n2 : Int) := by omega
                      clear hr hfx hf2 sw2 hnext hx sbx slx
                      generalize x.2.1 = nx at *
                      generalize x.2.2.1 = cx at *
                      generalize x.1 = Ax at *
                      generalize x.2.2.2 = bx at *
                      have hstr : decide ((stText t).1 = bx) = ((str (stText t).1).toList == (str bx).toList) := by
                        rw [Bool.eq_iff_iff]
                        simp [str_inj]
                      have HSTR := Lib.hid hstr
                      clear hstr
                      rcases Bool.eq_false_or_eq_true ((str (stText t).1).toList == (str bx).toList) with hv1 | hv1
                      all_goals
                        refine wp_region_C [(0, true), (3, true), (4, true), (5, true), (6, true), (7, true), (1, false), (2, false), (8, false), (9, false), (10, false), (11, false), (12, false)] (RBut (some p)) (by kernel_rfl) (by kernel_rfl) (by kernel_rfl) (by decide) (RBut.refl_ _) (RBut.trans_ _) (by intro d v c a w h; cases d <;> exact h) ?_
                        generalize wr.drew = wd at *
                        repeat (first | (refine wpC_quiet (v := ?_) rfl (by rfl) ?_ ?_; rotate_left; (· (intro w' hw'; go_simp; try with_reducible rfl)); simp only [Act.put, List.setIfInBounds_toArray, List.set_cons_zero, List.set_cons_succ]) | (refine wpC_val (v := ?_) (RBut.refl_ _) rfl (by rfl) ?_ ?_; rotate_left; (· (go_simp; try with_reducible rfl)); simp only [Act.put, List.setIfInBounds_toArray, List.set_cons_zero, List.set_cons_succ]) | (refine wpC_skip rfl (by rfl) ?_; simp only [Act.put, List.setIfInBounds_toArray, List.set_cons_zero, List.set_cons_succ]) | (refine wpC_skip' (RBut.refl_ _) rfl (by rfl) ?_; simp only [Act.put, List.setIfInBounds_toArray, List.set_cons_zero, List.set_cons_succ]))
                        (refine wpC_loud rfl (by rfl) ?_; intro K hK; go_simp)
                        refine (rText_any p t _ hrd).mono ?_
                        rintro e w11 ⟨A6, n6, c6, rfl, ho11, hr11, hb11⟩
                        (refine hK.out _ _ (hb11) ?_; clear hK K; try simp only [Act.put, List.setIfInBounds_toArray, List.set_cons_zero, List.set_cons_succ])
                        have f11 := hfd.trans (below_but hb11 hpw hfd.size)
                        have cv := conv_str (c := c6) Try.underlying24 Try.underlying5 Try.underlying9 ho11.sl
                        clear hrd hfd hb11
                        repeat (first | (refine wpC_quiet (v := ?_) rfl (by rfl) ?_ ?_; rotate_left; (· (intro w' hw'; go_simp; try with_reducible rfl)); simp only [Act.put, List.setIfInBounds_toArray, List.set_cons_zero, List.set_cons_succ]) | (refine wpC_val (v := ?_) (RBut.refl_ _) rfl (by rfl) ?_ ?_; rotate_left; (· (go_simp; try with_reducible rfl)); simp only [Act.put, List.setIfInBounds_toArray, List.set_cons_zero, List.set_cons_succ]) | (refine wpC_skip rfl (by rfl) ?_; simp only [Act.put, List.setIfInBounds_toArray, List.set_cons_zero, List.set_cons_succ]) | (refine wpC_skip' (RBut.refl_ _) rfl (by rfl) ?_; simp only [Act.put, List.setIfInBounds_toArray, List.set_cons_zero, List.set_cons_succ]))
                        refine wpC_nil ?_
                        clear cv cxd cvd
                        go_wp2_with fail
                        go_roundw
                        case rel => exact ⟨m + 1, stepT (t, ok') bx, by go_num, by omega, by simp only [stepT, HSTR.out, hv1, Bool.true_and, Bool.false_and], HN.out.symm, hr11, f11⟩
                        case measure => simp [intOf]; omega
                    · obtain rfl : n2 = m := by omega
                      have e1 : ss.take n2 = ss := List.take_of_length_le (by rw [L2.out]; exact Nat.le_refl _)
                      rw [e1] at HS
                      rw [← HS.out] at FIN
                      clear HS e1
                      go_wp2_with fail
                      obtain ⟨rfl, rfl⟩ : t = ([7], 0) ∧ ok' = true := by simpa using FIN.out
                      refine (rEnd_any p ([7], 0) _ hr).mono ?_
                      rw [show stEnd ([7], 0) = 9 from rfl]

                      rintro e w' ⟨rfl, rfl⟩
                      go_wp2_with fail
                      go_roundw
                      case rel => exact ⟨2, rfl, by omega, sA.to hfx, hbk.to hfx, hf.trans (hfx.mono hf.size)⟩
                      case measure => simp [intOf]
            · have u1 : (n : Int) - 1 = ((n - 1 : Nat) : Int) := by omega
              go_wp2_with fail
              obtain ⟨xb, hxb⟩ : ∃ xb, xb = bs.take (n - 1) := ⟨_, rfl⟩
              have sX : Sl wo 1 (some ⟨bA, oA, none⟩) (n - 1) (B8 xb) := by rw [hxb]; exact sA.front (by omega)
              have FIN : Hid (((ss.map (·.2.2.2)).foldl stepT (zs.foldl stepI (stepH xb h))).1.2 = 8) := (by
                show _ = _
                rw [hxb]
                have hl : n - 1 < bs.length := by rw [← HN8.out]; omega
                refine BC.out (bs.take (n - 1)) bs[n - 1] ?_
                rw [← List.take_succ_eq_append_getElem hl]
                exact List.take_of_length_le (by rw [← HN8.out]; omega))
              have hbx : Below wo.heap.size wo wo := Below.refl _ _
              refine (new_any (some ⟨bA, oA, none⟩) (n - 1) c xb _ sX (by omega)).mono ?_

              rintro e w8 ⟨p, rfl, hp, hr8, hb8⟩
              have hpw : wo.heap.size ≤ p := Nat.le_trans hbx.size hp
              have f8 : Below wo.heap.size wo w8 := hbx.trans (hb8.mono hbx.size)
              have hbk8 := hbk.to f8
              have sA8 := sA.to f8
              clear sX hb8 hbx hxb
              go_wp2_with fail
              refine wp_region_C [(0, true), (2, true), (1, false), (3, false), (4, false)] (RBut (some p)) (by kernel_rfl) (by kernel_rfl) (by kernel_rfl) (by decide) (RBut.refl_ _) (RBut.trans_ _) (by intro d v c a w h; cases d <;> exact h) ?_
              have hrd : Rd w8.drew p xb 0 := hr8.keep (Below.refl _ _).drew
              have f9 : Below wo.heap.size wo w8.drew := f8.drew
              have hph : w.heap.size ≠ p := by have := hbk.lt; omega
              have hpb : bA ≠ p := by have := sA.some_ (by omega); obtain ⟨_, _, e, hl⟩ := this; injection e with e; injection e with e; omega
              have rg : ∀ w', RBut (some p) w8.drew w' → w'.rangeAt w.heap.size 0 (B8 h) := fun w' hw' => (Blk.but (w := w8.drew) (hbk.to f9) hw' (fun h => by injection h; omega)).range
              clear hr8 f8 hbk8 sA8
              generalize w8.drew = w9 at *
              repeat (first | (refine wpC_quiet (v := ?_) rfl (by rfl) ?_ ?_; rotate_left; (· (intro w' hw'; go_simp; try with_reducible rfl)); simp only [Act.put, List.setIfInBounds_toArray, List.set_cons_zero, List.set_cons_succ]) | (refine wpC_val (v := ?_) (RBut.refl_ _) rfl (by rfl) ?_ ?_; rotate_left; (· (go_simp; try with_reducible rfl)); simp only [Act.put, List.setIfInBounds_toArray, List.set_cons_zero, List.set_cons_succ]) | (refine wpC_skip rfl (by rfl) ?_; simp only [Act.put, List.setIfInBounds_toArray, List.set_cons_zero, List.set_cons_succ]) | (refine wpC_skip' (RBut.refl_ _) rfl (by rfl) ?_; simp only [Act.put, List.setIfInBounds_toArray, List.set_cons_zero, List.set_cons_succ]))
              refine wpC_load rfl (by rfl) _ _ rfl w.heap.size 0 rfl (B8 h) _ rg Try.underlying29 rfl (info_hash HH.out) ?_
              simp only [Act.put, List.setIfInBounds_toArray, List.set_cons_zero, List.set_cons_succ]
              (refine wpC_loud rfl (by rfl) ?_; intro K hK; go_simp)
              refine (rHash_any p (xb, 0) _ hrd).mono ?_
              rintro e w10 ⟨rfl, hr10, hb10⟩
              (refine hK.out _ _ (hb10) ?_; clear hK K; try simp only [Act.put, List.setIfInBounds_toArray, List.set_cons_zero, List.set_cons_succ])
              have f10 := f9.trans (below_but hb10 hpw f9.size)
              have hstep : Hid ((stHash (xb, 0)).2 = (stepH xb h).1 ∧ decide ((stHash (xb, 0)).1 = h) = (stepH xb h).2) := ⟨rfl, rfl⟩
              have eh := eq_hash (stHash (xb, 0)).1 h (stHash_len _) HH.out
              rw [hstep.out.2] at eh
              rw [hstep.out.1] at hr10
              unfold hv
              generalize (stHash (xb, 0)).1 = h1 at *
              generalize hs0 : stepH xb h = s0 at *
              clear hstep hs0 rg hrd f9 hb10
              repeat (first | (refine wpC_quiet (v := ?_) rfl (by rfl) ?_ ?_; rotate_left; (· (intro w' hw'; go_simp; try with_reducible rfl)); simp only [Act.put, List.setIfInBounds_toArray, List.set_cons_zero, List.set_cons_succ]) | (refine wpC_val (v := ?_) (RBut.refl_ _) rfl (by rfl) ?_ ?_; rotate_left; (· (go_simp; try with_reducible rfl)); simp only [Act.put, List.setIfInBounds_toArray, List.set_cons_zero, List.set_cons_succ]) | (refine wpC_skip rfl (by rfl) ?_; simp only [Act.put, List.setIfInBounds_toArray, List.set_cons_zero, List.set_cons_succ]) | (refine wpC_skip' (RBut.refl_ _) rfl (by rfl) ?_; simp only [Act.put, List.setIfInBounds_toArray, List.set_cons_zero, List.set_cons_succ]))
              refine wpC_nil ?_
              clear eh
              go_wp2_with fail
              go_loopw [13, 14] (fun o i wr => ∃ (m : Nat) (s : (List UInt8 × Int) × Bool), i = .int .i64 m ∧ m ≤ n1 ∧ o = .bool s.2 ∧ s = (zs.take m).foldl stepI s0 ∧ Rd wr p s.1.1 s.1.2 ∧ Below wo.heap.size wo wr) (fun _ i _ => n1 - (intOf i).toNat)
              case atStart => exact ⟨0, s0, rfl, by omega, rfl, rfl, hr10, f10⟩
              case round =>
                clear hr10 f10
                obtain ⟨m, s, rfl, hm, rfl, hs, hr, hfx⟩ := hrel
                have HS := Lib.hid hs
                clear hs
                obtain ⟨s, ok⟩ := s
                by_cases hlt : m < n1
                · obtain ⟨z, hz⟩ : ∃ z, zs[m]? = some z := ⟨_, List.getElem?_eq_getElem (by rw [L1.out]; exact hlt)⟩
                  have hf2 := hf.trans (hfx.mono hf.size)
                  have sw1 := sl1.to hf2
                  obtain ⟨b1, o1, rfl, hb1⟩ := sw1.some_ (by omega)
                  go_wp2_with fail
                  have czd : ∀ w', RBut (some p) wr.drew w' → w'.cell? ⟨b1, o1 + m, none⟩ = some (.int .i64 z) := fun w' hw' => (sl1.to (hf2.drew.trans (below_but hw' (Nat.le_trans hf.size hpw) hf2.size))).cell (k := m) (by simp [hz])
                  have hnext : (zs.take (m + 1)).foldl stepI s0 = stepI (s, ok) z := by
                    rw [List.take_add_one, hz, List.foldl_append, ← HS.out]
                    rfl
                  have HN := Lib.hid hnext
                  have hrd : Rd wr.drew p s.1 s.2 := hr.keep (Below.refl _ _).drew
                  have hfd : Below wo.heap.size wo wr.drew := hfx.drew
                  have ti : (m : Int) < (n1 : Int) := by omega
                  clear hr hfx hf2 sw1 hnext hz
                  rcases Bool.eq_false_or_eq_true ((stInt s).1 == z) with hv1 | hv1
                  all_goals
                    refine wp_region_C [(0, true), (2, true), (3, true), (4, true), (5, true), (1, false), (6, false), (7, false), (8, false), (9, false), (10, false)] (RBut (some p)) (by kernel_rfl) (by kernel_rfl) (by kernel_rfl) (by decide) (RBut.refl_ _) (RBut.trans_ _) (by intro d v c a w h; cases d <;> exact h) ?_
                    generalize wr.drew = wd at *
                    repeat (first | (refine wpC_quiet (v := ?_) rfl (by rfl) ?_ ?_; rotate_left; (· (intro w' hw'; go_simp; try with_reducible rfl)); simp only [Act.put, List.setIfInBounds_toArray, List.set_cons_zero, List.set_cons_succ]) | (refine wpC_val (v := ?_) (RBut.refl_ _) rfl (by rfl) ?_ ?_; rotate_left; (· (go_simp; try with_reducible rfl)); simp only [Act.put, List.setIfInBounds_toArray, List.set_cons_zero, List.set_cons_succ]) | (refine wpC_skip rfl (by rfl) ?_; simp only [Act.put, List.setIfInBounds_toArray, List.set_cons_zero, List.set_cons_succ]) | (refine wpC_skip' (RBut.refl_ _) rfl (by rfl) ?_; simp only [Act.put, List.setIfInBounds_toArray, List.set_cons_zero, List.set_cons_succ]))
                    (refine wpC_loud rfl (by rfl) ?_; intro K hK; go_simp)
                    refine (rInt_any p s _ hrd).mono ?_
                    rintro e w11 ⟨rfl, hr11, hb11⟩
                    (refine hK.out _ _ (hb11) ?_; clear hK K; try simp only [Act.put, List.setIfInBounds_toArray, List.set_cons_zero, List.set_cons_succ])
                    have f11 := hfd.trans (below_but hb11 hpw hfd.size)
                    clear czd hrd hfd hb11
                    repeat (first | (refine wpC_quiet (v := ?_) rfl (by rfl) ?_ ?_; rotate_left; (· (intro w' hw'; go_simp; try with_reducible rfl)); simp only [Act.put, List.setIfInBounds_toArray, List.set_cons_zero, List.set_cons_succ]) | (refine wpC_val (v := ?_) (RBut.refl_ _) rfl (by rfl) ?_ ?_; rotate_left; (· (go_simp; try with_reducible rfl)); simp only [Act.put, List.setIfInBounds_toArray, List.set_cons_zero, List.set_cons_succ]) | (refine wpC_skip rfl (by rfl) ?_; simp only [Act.put, List.setIfInBounds_toArray, List.set_cons_zero, List.set_cons_succ]) | (refine wpC_skip' (RBut.refl_ _) rfl (by rfl) ?_; simp only [Act.put, List.setIfInBounds_toArray, List.set_cons_zero, List.set_cons_succ]))
                    refine wpC_nil ?_
                    go_wp2_with fail
                    go_roundw
                    case rel => exact ⟨m + 1, stepI (s, ok) z, by go_num, by omega, by simp [stepI, *], HN.out.symm, hr11, f11⟩
                    case measure => simp [intOf]; omega
                · obtain rfl : n1 = m := by omega
                  have e1 : zs.take n1 = zs := List.take_of_length_le (by rw [L1.out]; exact Nat.le_refl _)
                  have hs1 : (s, ok) = zs.foldl stepI s0 := by rw [← e1]; exact HS.out
                  rw [← hs1] at FIN
                  clear HS e1 hs1
                  go_wp2_with fail
                  go_loopw [13, 15] (fun o i wr => ∃ (m : Nat) (s' : (List UInt8 × Int) × Bool), i = .int .i64 m ∧ m ≤ n2 ∧ o = .bool s'.2 ∧ s' = ((ss.take m).map (·.2.2.2)).foldl stepT (s, ok) ∧ Rd wr p s'.1.1 s'.1.2 ∧ Below wo.heap.size wo wr) (fun _ i _ => n2 - (intOf i).toNat)
                  case atStart => exact ⟨0, (s, ok), rfl, by omega, rfl, rfl, hr, hfx⟩
                  case round =>
                    clear hr hfx
                    obtain ⟨m, s', rfl, hm, rfl, hs, hr, hfx⟩ := hrel
                    have HS := Lib.hid hs
                    clear hs
                    obtain ⟨t, ok'⟩ := s'
                    by_cases hlt : m < n2
                    · obtain ⟨x, hx⟩ : ∃ x, ss[m]? = some x := ⟨_, List.getElem?_eq_getElem (by rw [L2.out]; exact hlt)⟩
                      have sbx := sb x (List.mem_of_getElem? hx)
                      have hf2 := hf.trans (hfx.mono hf.size)
                      have sw2 := sl2.to hf2
                      obtain ⟨b2, o2, rfl, hb2⟩ := sw2.some_ (by omega)
                      go_wp2_with fail
                      have slx := sbx.2.2.2.to hf2.drew
                      have cxd : ∀ w', RBut (some p) wr.drew w' → w'.cell? ⟨b2, o2 + m, none⟩ = some (.slice x.1 x.2.1 x.2.2.1) := fun w' hw' => (sl2.to (hf2.drew.trans (below_but hw' (Nat.le_trans hf.size hpw) hf2.size))).cell (k := m) (u := sbv x) (by simp [hx])
                      have cvd : ∀ w', RBut (some p) wr.drew w' → (convert 24 9 (.slice x.1 x.2.1 x.2.2.1)).run Try.prog w' = .ok (.string (str x.2.2.2)) w' := fun w' hw' =>
                        conv_str Try.underlying24 Try.underlying5 Try.underlying9 (sbx.2.2.2.to (hf2.drew.trans (below_but hw' (Nat.le_trans hf.size hpw) hf2.size)))
                      have hnext : ((ss.take (m + 1)).map (·.2.2.2)).foldl stepT (s, ok) = stepT (t, ok') x.2.2.2 := by
                        rw [List.take_add_one, hx, List.map_append, List.foldl_append, ← HS.out]
                        rfl
                      have HN := Lib.hid hnext
                      have hrd : Rd wr.drew p t.1 t.2 := hr.keep (Below.refl _ _).drew
                      have hfd : Below wo.heap.size wo wr.drew := hfx.drew
                      have ti : (m : Int) < (n2 : Int) := by omega
                      clear hr hfx hf2 sw2 hnext hx sbx slx
                      generalize x.2.1 = nx at *
                      generalize x.2.2.1 = cx at *
                      generalize x.1 = Ax at *
                      generalize x.2.2.2 = bx at *
                      have hstr : decide ((stText t).1 = bx) = ((str (stText t).1).toList == (str bx).toList) := by
                        rw [Bool.eq_iff_iff]
                        simp [str_inj]
                      have HSTR := Lib.hid hstr
                      clear hstr
                      rcases Bool.eq_false_or_eq_true ((str (stText t).1).toList == (str bx).toList) with hv1 | hv1
                      all_goals
                        refine wp_region_C [(0, true), (3, true), (4, true), (5, true), (6, true), (7, true), (1, false), (2, false), (8, false), (9, false), (10, false), (11, false), (12, false)] (RBut (some p)) (by kernel_rfl) (by kernel_rfl) (by kernel_rfl) (by decide) (RBut.refl_ _) (RBut.trans_ _) (by intro d v c a w h; cases d <;> exact h) ?_
                        generalize wr.drew = wd at *
                        repeat (first | (refine wpC_quiet (v := ?_) rfl (by rfl) ?_ ?_; rotate_left; (· (intro w' hw'; go_simp; try with_reducible rfl)); simp only [Act.put, List.setIfInBounds_toArray, List.set_cons_zero, List.set_cons_succ]) | (refine wpC_val (v := ?_) (RBut.refl_ _) rfl (by rfl) ?_ ?_; rotate_left; (· (go_simp; try with_reducible rfl)); simp only [Act.put, List.setIfInBounds_toArray, List.set_cons_zero, List.set_cons_succ]) | (refine wpC_skip rfl (by rfl) ?_; simp only [Act.put, List.setIfInBounds_toArray, List.set_cons_zero, List.set_cons_succ]) | (refine wpC_skip' (RBut.refl_ _) rfl (by rfl) ?_; simp only [Act.put, List.setIfInBounds_toArray, List.set_cons_zero, List.set_cons_succ]))
                        (refine wpC_loud rfl (by rfl) ?_; intro K hK; go_simp)
                        refine (rText_any p t _ hrd).mono ?_
                        rintro e w11 ⟨A6, n6, c6, rfl, ho11, hr11, hb11⟩
                        (refine hK.out _ _ (hb11) ?_; clear hK K; try simp only [Act.put, List.setIfInBounds_toArray, List.set_cons_zero, List.set_cons_succ])
                        have f11 := hfd.trans (below_but hb11 hpw hfd.size)
                        have cv := conv_str (c := c6) Try.underlying24 Try.underlying5 Try.underlying9 ho11.sl
                        clear hrd hfd hb11
                        repeat (first | (refine wpC_quiet (v := ?_) rfl (by rfl) ?_ ?_; rotate_left; (· (intro w' hw'; go_simp; try with_reducible rfl)); simp only [Act.put, List.setIfInBounds_toArray, List.set_cons_zero, List.set_cons_succ]) | (refine wpC_val (v := ?_) (RBut.refl_ _) rfl (by rfl) ?_ ?_; rotate_left; (· (go_simp; try with_reducible rfl)); simp only [Act.put, List.setIfInBounds_toArray, List.set_cons_zero, List.set_cons_succ]) | (refine wpC_skip rfl (by rfl) ?_; simp only [Act.put, List.setIfInBounds_toArray, List.set_cons_zero, List.set_cons_succ]) | (refine wpC_skip' (RBut.refl_ _) rfl (by rfl) ?_; simp only [Act.put, List.setIfInBounds_toArray, List.set_cons_zero, List.set_cons_succ]))
                        refine wpC_nil ?_
                        clear cv cxd cvd
                        go_wp2_with fail
                        go_roundw
                        case rel => exact ⟨m + 1, stepT (t, ok') bx, by go_num, by omega, by simp only [stepT, HSTR.out, hv1, Bool.true_and, Bool.false_and], HN.out.symm, hr11, f11⟩
                        case measure => simp [intOf]; omega
                    · obtain rfl : n2 = m := by omega
                      have e1 : ss.take n2 = ss := List.take_of_length_le (by rw [L2.out]; exact Nat.le_refl _)
                      rw [e1] at HS
                      rw [← HS.out] at FIN
                      clear HS e1
                      go_wp2_with fail
                      obtain ⟨t1, t2⟩ := t
                      obtain rfl : t2 = 8 := FIN.out
                      refine (rEnd_any p (t1, 8) _ hr).mono ?_
                      rw [show stEnd (t1, 8) = 8 from rfl]

                      rintro e w' ⟨rfl, rfl⟩
                      go_wp2_with fail
                      go_roundw
                      case rel => exact ⟨3, rfl, by omega, sA.to hfx, hbk.to hfx, hf.trans (hfx.mono hf.size)⟩
                      case measure => simp [intOf]
            · go_wp2_with fail
              go_ret
              exact ⟨rfl, hf⟩
end Go.Proofs.Ytoecbgdkbncfbaa

