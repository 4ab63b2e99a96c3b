/- Walks: is a sum verified at its place (trace.Verify). -/
import Derived.Test.YtakebmpnbdlcoaaTraceV
import Derived.Test.YtakebmpnbdlcoaaTraceC
set_option linter.unusedSimpArgs false
set_option linter.unusedVariables false
namespace Go.Proofs.Ytakebmpnbdlcoaa
open Go.RowKit
set_option maxRecDepth 100000
theorem drop_at {α : Type} {l : List α} {q : Nat} {x : α} (h : l[q]? = some x) : l.drop q = x :: l.drop (q + 1) := by
  obtain ⟨hq, rfl⟩ := List.getElem?_eq_some_iff.1 h
  exact List.drop_eq_getElem_cons hq
set_option maxRecDepth 100000 in
set_option maxHeartbeats 4000000 in
theorem verify_any (root h : List UInt8) (n i : Int) (A : Option Addr) (m c : Nat) (path : List (List UInt8)) (w : World) (hr : root.length = 32) (hh : h.length = 32) (hl : ∀ x ∈ path, x.length = 32) (hlen : path.length = m) (sl : Sl w 32 A m (H8 path))
    (n1 : -9223372036854775808 ≤ n) (n2 : n < 9223372036854775808) (i1 : -9223372036854775808 ≤ i) (i2 : i < 9223372036854775808) :
    Calls Try.prog 37 #[hv root, .int .i64 n, .int .i64 i, hv h, .slice A m c] w (RB (verS root n i h path) w) := by
  unfold hv
  obtain ⟨W, HW, hbw, br, bh⟩ : ∃ W, Hid (W = (w.alloc (.cells (B8 root).toArray 27)).alloc (.cells (B8 h).toArray 27)) ∧ Below w.heap.size w W ∧
      Blk W w.heap.size 27 (B8 root) ∧ Blk W (w.heap.size + 1) 27 (B8 h) := by
    refine ⟨_, rfl, ((Below.refl _ _).alloc (Nat.le_refl _) _).alloc (by simp) _, ?_, ?_⟩
    · exact (Blk.new w (B8 root).toArray 27).to ((Below.refl _ _).alloc (Nat.le_refl _) _)
    · have := Blk.new (w.alloc (.cells (B8 root).toArray 27)) (B8 h).toArray 27
      simpa using this
  have HR := Lib.hid hr
  have HH := Lib.hid hh
  have HL := Lib.hid hl
  have HLN := Lib.hid hlen
  clear hr hh hl hlen
  by_cases hbad : ¬ (1 ≤ n ∧ n ≤ 1073741824 ∧ 0 ≤ i ∧ i < n)
  · have hv : verS root n i h path = false := by
      unfold verS
      rw [decide_eq_false_iff_not]
      intro hx
      exact hbad ⟨hx.1, hx.2.1, hx.2.2.1, hx.2.2.2.1⟩
    rw [hv]
    have hb4 : n < 1 ∨ ¬ n < 1 ∧ 1073741824 < n ∨ ¬ n < 1 ∧ ¬ 1073741824 < n ∧ i < 0 ∨ ¬ n < 1 ∧ ¬ 1073741824 < n ∧ ¬ i < 0 ∧ n ≤ i := by omega
    clear hv hbad
    go_enter Try.func37, Try.ntmps37
    go_upto_region 1 with fail
    refine wp_at HW.out ?_
    clear HW
    rcases hb4 with a1 | ⟨a1, a2⟩ | ⟨a1, a2, a3⟩ | ⟨a1, a2, a3, a4⟩
    all_goals
      go_wp2_with fail
      go_ret
      exact ⟨rfl, hbw⟩
  · obtain ⟨N, rfl⟩ : ∃ N : Nat, n = (N : Int) := ⟨n.toNat, by omega⟩
    obtain ⟨I, rfl⟩ : ∃ I : Nat, i = (I : Int) := ⟨i.toNat, by omega⟩
    have hgood : 1 ≤ (N : Int) ∧ (N : Int) ≤ 1073741824 ∧ 0 ≤ (I : Int) ∧ (I : Int) < (N : Int) := by omega
    clear hbad n1 n2 i1 i2
    obtain ⟨g1, g2, g3, g4⟩ := hgood
    have hver : verS root (N : Int) (I : Int) h path = decide (path.length = (sidesS N I).length ∧ foldUp (sidesS N I).reverse path h = root) := by
      unfold verS
      simp only [Int.toNat_natCast]
      rw [decide_eq_decide]
      exact ⟨fun hx => hx.2.2.2.2, fun hx => ⟨g1, g2, g3, g4, hx⟩⟩
    have a1 : ¬ (N : Int) < 1 := by omega
    have a2 : ¬ 1073741824 < (N : Int) := by omega
    have a3 : ¬ (I : Int) < 0 := by omega
    have a4 : ¬ (N : Int) ≤ (I : Int) := by omega
    have HD := Lib.hid (sides_lt (n := N) (i := I) (by omega))
    go_enter Try.func37, Try.ntmps37
    go_upto_region 1 with fail
    refine wp_at HW.out ?_
    clear HW
    go_wp2_with fail
    refine (sides_any N I W (by omega) (by omega)).mono ?_
    rintro e w1 ⟨A1, d, c1, rfl, ho1, hb1⟩
    have hd : d = (sidesS N I).length := by have := ho1.len; simp at this; omega
    have f1 := hbw.trans (hb1.mono hbw.size)
    have br1 := br.to hb1
    have bh1 := bh.to hb1
    have sl1 := sl.to f1
    have hMW := bh.lt
    have HDD := Lib.hid hd
    clear br bh hb1 hbw hd a1 a2 a3 a4 g1 g2 g3 g4
    generalize hM : w.heap.size = M at *
    have HM := Lib.hid hM
    clear hM
    by_cases hlm : d = m
    · subst hlm
      have HS : Hid (verS root (N : Int) (I : Int) h path = decide (foldUp (sidesS N I).reverse path h = root)) := (show _ = _ by
        rw [hver, decide_eq_decide]
        exact ⟨fun hx => hx.2, fun hx => ⟨by rw [HLN.out, HDD.out], hx⟩⟩)
      clear hver
      have sb1 := ho1.sl
      have hsb := ho1.lt
      have hd30 : d ≤ 30 := by have := HD.out; have := HDD.out; omega
      clear ho1
      generalize sidesS N I = ss at *
      go_wp2_with fail
      go_loopw [39] (fun k wr => ∃ (q : Nat) (x : List UInt8), k = .int .i64 (q : Int) ∧ q ≤ d ∧ Hid (foldUp (ss.reverse.drop q) (path.drop q) x = foldUp ss.reverse path h) ∧ Hid (x.length = 32) ∧ Blk wr (M + 1) 27 (B8 x) ∧ RBut (some (M + 1)) w1 wr) (fun k _ => d - (intOf k).toNat)
      case atStart => exact ⟨0, h, rfl, Nat.zero_le _, rfl, HH, bh1, RBut.refl_ _ _⟩
      case round =>
        obtain ⟨q, x, rfl, hq, hf, hx, bx, hbu⟩ := hrel
        have hsz := hbu.size
        have hM1 := bh1.lt
        by_cases hlt : q < d
        · have t1 : (q : Int) < (d : Int) := by omega
          obtain ⟨p, hp⟩ : ∃ p, path[q]? = some p := ⟨_, List.getElem?_eq_getElem (by rw [HLN.out]; exact hlt)⟩
          obtain ⟨s, hs⟩ : ∃ s, ss[d - 1 - q]? = some s := ⟨_, List.getElem?_eq_getElem (by rw [← HDD.out]; omega)⟩
          have hs2 : ss.reverse[q]? = some s := by rw [List.getElem?_reverse (by rw [← HDD.out]; exact hlt), ← HDD.out]; exact hs
          have hp32 := HL.out p (List.mem_of_getElem? hp)
          have HF : Hid (foldUp (ss.reverse.drop (q + 1)) (path.drop (q + 1)) (if s then twoS p x else twoS x p) = foldUp ss.reverse path h) := (show _ = _ by
            rw [← hf.out, drop_at hs2, drop_at hp]
            rfl)
          obtain ⟨pb, po, rfl, hpb⟩ := sl.some_ (by omega)
          obtain ⟨gb, go, rfl, hgb⟩ := sb1.some_ (by omega)
          have hgM := (hsb gb rfl).1
          have rp : wr.rangeAt pb (po + q * 32) (B8 p) := (sl1.but hbu (by intro e; injection e; have := HM.out; omega)).range32 HL.out q p hp
          have HP := Lib.hid hp32
          have HPP := Lib.hid hp
          have u1 : (d : Int) - 1 - (q : Int) = ((d - 1 - q : Nat) : Int) := by omega
          have sbr : Sl wr 1 (some ⟨gb, go, none⟩) d (ss.map Value.bool) := sb1.but hbu (by intro e; injection e; omega)
          have HSS : Hid ((ss.map Value.bool)[d - 1 - q]? = some (.bool s)) := (show _ = _ by rw [List.getElem?_map, hs]; rfl)
          clear hs hs2 hp hp32
          cases s
          · simp only [Bool.false_eq_true, if_false] at HF
            go_wp2_with (first
              | (refine wpl_load_fld (by rfl) _ _ rfl pb (po + q * 32) rfl (B8 p) _ rp Try.underlying27 rfl (info_hash HP.out) ?_)
              | (refine wpl_store_new rfl _ _ _ rfl 27 _ (B8 p) rfl rfl (by rw [B8_len, HP.out]; rfl) (info_hash HP.out) (B8_one _) ?_
                 intro w5 b5 h5
                 have cb := (sbr.to h5).cell HSS.out
                 have bx5 := bx.to h5)
              | (refine wpl_load_fld (by rfl) _ _ rfl wr.heap.size 0 rfl (B8 p) _ b5.range Try.underlying27 rfl (info_hash HP.out) ?_)
              | (refine wpl_load_fld (by rfl) _ _ rfl (M + 1) 0 rfl (B8 x) _ bx5.range Try.underlying27 rfl (info_hash hx.out) ?_))
            refine (two_any x p hx.out HP.out w5).mono ?_
            rintro e w6 ⟨rfl, h6⟩
            have HT := Lib.hid (twoS_len x p)
            generalize hT : twoS x p = sm at *
            have bx6 := bx5.to h6
            have f6 : RBut (some (M + 1)) w1 w6 := RBut.trans_ _ _ _ _ hbu (RBut.of_below (h5.trans (h6.mono h5.size)))
            unfold hv
            go_wp2_with (first
              | (refine wpl_store_fld (by rfl) _ _ _ rfl (M + 1) 0 _ _ (B8 sm) rfl _ rfl rfl bx6 (by rw [B8_len, B8_len, HT.out, hx.out]; decide) (info_hash HT.out) (B8_one _) ?_
                 intro w7 b7 h7
                 rw [put_all _ _ (by rw [B8_len, B8_len, HT.out, hx.out])] at b7))
            go_roundw
            case rel => exact ⟨q + 1, sm, by go_num, by omega, HF, HT, b7, RBut.trans_ _ _ _ _ f6 h7⟩
            case measure => simp [intOf]; omega
          · simp only [if_true] at HF
            go_wp2_with (first
              | (refine wpl_load_fld (by rfl) _ _ rfl pb (po + q * 32) rfl (B8 p) _ rp Try.underlying27 rfl (info_hash HP.out) ?_)
              | (refine wpl_store_new rfl _ _ _ rfl 27 _ (B8 p) rfl rfl (by rw [B8_len, HP.out]; rfl) (info_hash HP.out) (B8_one _) ?_
                 intro w5 b5 h5
                 have cb := (sbr.to h5).cell HSS.out
                 have bx5 := bx.to h5)
              | (refine wpl_load_fld (by rfl) _ _ rfl wr.heap.size 0 rfl (B8 p) _ b5.range Try.underlying27 rfl (info_hash HP.out) ?_)
              | (refine wpl_load_fld (by rfl) _ _ rfl (M + 1) 0 rfl (B8 x) _ bx5.range Try.underlying27 rfl (info_hash hx.out) ?_))
            refine (two_any p x HP.out hx.out w5).mono ?_
            rintro e w6 ⟨rfl, h6⟩
            have HT := Lib.hid (twoS_len p x)
            generalize hT : twoS p x = sm at *
            have bx6 := bx5.to h6
            have f6 : RBut (some (M + 1)) w1 w6 := RBut.trans_ _ _ _ _ hbu (RBut.of_below (h5.trans (h6.mono h5.size)))
            unfold hv
            go_wp2_with (first
              | (refine wpl_store_fld (by rfl) _ _ _ rfl (M + 1) 0 _ _ (B8 sm) rfl _ rfl rfl bx6 (by rw [B8_len, B8_len, HT.out, hx.out]; decide) (info_hash HT.out) (B8_one _) ?_
                 intro w7 b7 h7
                 rw [put_all _ _ (by rw [B8_len, B8_len, HT.out, hx.out])] at b7))
            go_roundw
            case rel => exact ⟨q + 1, sm, by go_num, by omega, HF, HT, b7, RBut.trans_ _ _ _ _ f6 h7⟩
            case measure => simp [intOf]; omega
        · have t1 : ¬ (q : Int) < (d : Int) := by omega
          have hqd : q = d := by omega
          have HX : Hid (x = foldUp ss.reverse path h) := (show _ = _ by
            rw [← hf.out, show path.drop q = [] from List.drop_eq_nil_of_le (by rw [HLN.out]; omega)]
            cases List.drop q ss.reverse <;> rfl)
          have brr := br1.but hbu (by intro e; injection e; omega)
          have eqx := eq_hash x root hx.out HR.out
          have fin := f1.trans (below_but hbu (Nat.le_succ _) (by have := f1.size; have := HM.out; omega))
          go_wp2_with (first
            | (refine wpl_load_fld (by rfl) _ _ rfl (M + 1) 0 rfl (B8 x) _ bx.range Try.underlying27 rfl (info_hash hx.out) ?_)
            | (refine wpl_load_fld (by rfl) _ _ rfl M 0 rfl (B8 root) _ brr.range Try.underlying27 rfl (info_hash HR.out) ?_))
          go_ret
          rw [HS.out, ← HX.out]
          exact ⟨rfl, by rw [HM.out]; exact fin⟩
    · have HS : Hid (verS root (N : Int) (I : Int) h path = false) := (show _ = _ by
        rw [hver, decide_eq_false_iff_not]
        intro hx
        have := HDD.out
        have := HLN.out
        omega)
      clear hver
      have t1 : ¬ (d : Int) = (m : Int) := by omega
      go_wp2_with fail
      go_ret
      rw [HS.out]
      exact ⟨rfl, by rw [HM.out]; exact f1⟩
end Go.Proofs.Ytakebmpnbdlcoaa
