/- The texts of this claim, part M: words, plain laws, walks. -/
import Derived.Test.YtdopgooglicaiaaPartH
import Derived.Test.YtdopgooglicaiaaPartL
import Derived.Test.YtdopgooglicaiaaPartI
/- Walks: court.open, claimant. -/
set_option linter.unusedSimpArgs false
set_option linter.unusedVariables false
namespace Go.Proofs.Ytdopgooglicaiaa
open Go.RowKit
set_option maxRecDepth 100000
/-- an open suit of a claim; what is wrong else -/
def openE (c : CO) (i k : Int) : Int × Int := if findC c i k < 0 then (0, 2) else if (c.claims.getD k.toNat ⟨0, 0, 0, 0, [], []⟩).st ≠ 1 then (0, 18) else (findC c i k, 0)
set_option maxRecDepth 100000 in
set_option maxHeartbeats 4000000 in
theorem openC_any (v : Value) (c : CO) (hc : c.ok) (i k : Int) (w : World) (h : CoX [] w v c) : Calls Try.prog 44 #[v, .int .i64 i, .int .i64 k] w fun e w' => e = .returned (.tuple #[.int .i64 (openE c i k).1, .int .i64 (openE c i k).2]) ∧ Below w.heap.size w w' := by
  have hX := h
  obtain ⟨vt, vc, rfl, ht, ⟨Ac, n, cc, l, rfl, slc, hml, hln, _, _, hsu⟩⟩ := h
  obtain ⟨W, HW, hbw, bp⟩ : ∃ W, Hid (W = w.alloc (.cells (coC vt (.slice Ac n cc) c).toArray 30)) ∧ Below w.heap.size w W ∧ Blk W w.heap.size 30 (coC vt (.slice Ac n cc) c) :=
    ⟨_, rfl, (Below.refl _ _).alloc (Nat.le_refl _) _, Blk.new w (coC vt (.slice Ac n cc) c).toArray 30⟩
  have hN : c.claims.length = n := by rw [← hml, List.length_map]; exact hln
  have HC := Lib.hid hc
  have HML := Lib.hid hml
  have HN := Lib.hid hN
  have IC := Lib.hid (info_co (vt := vt) (vc := .slice Ac n cc) hc.pre hc.bank)
  have hXW := hX.to hbw
  clear hc hml hln hN hsu hX
  obtain ⟨f, hf⟩ : ∃ f, findC c i k = f := ⟨_, rfl⟩
  have HF := Lib.hid hf
  go_enter Try.func44, Try.ntmps44
  go_upto_region 1 with fail
  refine wp_at HW.out ?_
  clear HW hf
  go_wp2_with (first
    | (refine wpl_load_fld (by rfl) _ _ rfl w.heap.size 0 rfl (coC vt (.slice Ac n cc) c) _ bp.range Try.underlying30 rfl IC.out ?_))
  refine (findC_any _ c HC.out i k W hXW).mono ?_
  rintro e w1 ⟨rfl, hb1⟩
  rw [HF.out]
  have bp1 := bp.to hb1
  have f1 := hbw.trans (hb1.mono hbw.size)
  by_cases hf0 : f < 0
  · have HO : Hid (openE c i k = (0, 2)) := (show _ = _ by unfold openE; rw [HF.out, if_pos hf0])
    go_wp2_with fail
    go_ret2
    exact ⟨by rw [HO.out]; rfl, f1⟩
  · have hk : 0 ≤ k ∧ k < (n : Int) := by
      by_cases hk : 0 ≤ k ∧ k < (n : Int)
      · exact hk
      · have := HF.out
        unfold findC at this
        rw [HN.out, if_neg hk] at this
        omega
    obtain ⟨q, rfl⟩ : ∃ q : Nat, k = (q : Int) := ⟨k.toNat, by omega⟩
    have hq : q < n := by omega
    obtain ⟨x, hx⟩ : ∃ x, c.claims[q]? = some x := ⟨_, List.getElem?_eq_getElem (by rw [HN.out]; exact hq)⟩
    obtain ⟨u, hu⟩ := snd_get HML.out hx
    have HG : Hid (c.claims.getD ((q : Int)).toNat ⟨0, 0, 0, 0, [], []⟩ = x) := (show _ = _ by rw [Int.toNat_natCast, List.getD_eq_getElem?_getD, hx]; rfl)
    have sl1 := slc.to f1
    obtain ⟨b1, o1, rfl, hb1'⟩ := sl1.some_ (by omega)
    have k42 : w1.cell? ⟨w.heap.size, 42, none⟩ = some (.slice (some ⟨b1, o1, none⟩) n cc) := by rw [bp1.cell]; exact co_claims HC.out.pre HC.out.bank
    have hr1 : ∀ a ∈ l, (clF a).length = 37 := fun a ha => clF_len (HC.out.claims a.2 (mem_snd HML.out ha)).root
    have ku : w1.cell? ⟨b1, o1 + q * 37 + 3, none⟩ = some (.int .i64 x.st) := by
      rw [Nat.add_assoc]
      refine sl1.cell ?_
      have := rows_get l hr1 [] hu (j := 3) (by decide)
      rw [List.append_nil] at this
      rw [this]
      exact cl_st
    clear hr1 hu hx
    by_cases hst : x.st = 1
    · have HO : Hid (openE c i (q : Int) = (f, 0)) := (show _ = _ by unfold openE; rw [HF.out, if_neg hf0, HG.out, if_neg (by simp [hst])])
      go_wp2_with fail
      go_ret2
      exact ⟨by rw [HO.out]; rfl, f1⟩
    · have HO : Hid (openE c i (q : Int) = (0, 18)) := (show _ = _ by unfold openE; rw [HF.out, if_neg hf0, HG.out, if_pos hst])
      have t2 : (x.st != 1) = true := by simpa using hst
      go_wp2_with fail
      go_ret2
      exact ⟨by rw [HO.out]; rfl, f1⟩
/-- the suit that a claimant is to move in; what is wrong else -/
def claimE (c : CO) (i k g : Int) : Int × Int :=
  if ¬ partyB i ∨ ¬ partyB g then (0, 1) else if ¬ (0 ≤ k ∧ k < (c.claims.length : Int)) then (0, 2) else if (c.claims.getD k.toNat ⟨0, 0, 0, 0, [], []⟩).by_ ≠ i then (0, 1) else openE c g k
set_option maxRecDepth 100000 in
set_option maxHeartbeats 4000000 in
theorem claimant_any (v : Value) (c : CO) (hc : c.ok) (i k g : Int) (w : World) (h : CoX [] w v c) : Calls Try.prog 35 #[v, .int .i64 i, .int .i64 k, .int .i64 g] w fun e w' => e = .returned (.tuple #[.int .i64 (claimE c i k g).1, .int .i64 (claimE c i k g).2]) ∧ Below w.heap.size w w' := by
  have hX := h
  obtain ⟨vt, vc, rfl, ht, ⟨Ac, n, cc, l, rfl, slc, hml, hln, _, _, hsu⟩⟩ := h
  obtain ⟨W, HW, hbw, bp⟩ : ∃ W, Hid (W = w.alloc (.cells (coC vt (.slice Ac n cc) c).toArray 30)) ∧ Below w.heap.size w W ∧ Blk W w.heap.size 30 (coC vt (.slice Ac n cc) c) :=
    ⟨_, rfl, (Below.refl _ _).alloc (Nat.le_refl _) _, Blk.new w (coC vt (.slice Ac n cc) c).toArray 30⟩
  have hN : c.claims.length = n := by rw [← hml, List.length_map]; exact hln
  have HC := Lib.hid hc
  have HML := Lib.hid hml
  have HN := Lib.hid hN
  have IC := Lib.hid (info_co (vt := vt) (vc := .slice Ac n cc) hc.pre hc.bank)
  have hXW := hX.to hbw
  have slW := slc.to hbw
  have k42 : W.cell? ⟨w.heap.size, 42, none⟩ = some (.slice Ac n cc) := by rw [bp.cell]; exact co_claims hc.pre hc.bank
  clear hc hml hln hN hsu hX slc
  go_enter Try.func35, Try.ntmps35
  go_upto_region 1 with fail
  refine wp_at HW.out ?_
  clear HW
  go_wp2_with fail
  by_cases hpi : partyB i
  · refine (party_yes i W hpi).mono ?_
    rintro e W' ⟨rfl, rfl⟩
    go_wp2_with fail
    by_cases hpg : partyB g
    · refine (party_yes g W hpg).mono ?_
      rintro e W' ⟨rfl, rfl⟩
      by_cases hk : 0 ≤ k ∧ k < (n : Int)
      · obtain ⟨q, rfl⟩ : ∃ q : Nat, k = (q : Int) := ⟨k.toNat, by omega⟩
        have hq : q < n := by omega
        have t1 : ¬ (n : Int) ≤ (q : Int) := by omega
        obtain ⟨x, hx⟩ : ∃ x, c.claims[q]? = some x := ⟨_, List.getElem?_eq_getElem (by rw [HN.out]; exact hq)⟩
        obtain ⟨u, hu⟩ := snd_get HML.out hx
        have HG : Hid (c.claims.getD ((q : Int)).toNat ⟨0, 0, 0, 0, [], []⟩ = x) := (show _ = _ by rw [Int.toNat_natCast, List.getD_eq_getElem?_getD, hx]; rfl)
        obtain ⟨b1, o1, rfl, hb1'⟩ := slW.some_ (by omega)
        have hr1 : ∀ a ∈ l, (clF a).length = 37 := fun a ha => clF_len (HC.out.claims a.2 (mem_snd HML.out ha)).root
        have ku : W.cell? ⟨b1, o1 + q * 37, none⟩ = some (.int .i64 x.by_) := by
          refine slW.cell ?_
          have := rows_get l hr1 [] hu (j := 0) (by decide)
          rw [List.append_nil, Nat.add_zero] at this
          rw [this]
          exact cl_by
        clear hr1 hu hx
        by_cases hby : x.by_ = i
        · have HO : Hid (claimE c i (q : Int) g = openE c g (q : Int)) := (show _ = _ by unfold claimE; rw [if_neg (by simp [hpi, hpg]), if_neg (by rw [HN.out]; simp; omega), HG.out, if_neg (by simp [hby])])
          have t2 : (x.by_ != i) = false := by simp [hby]
          clear hby
          go_wp2_with (first
            | (refine wpl_load_fld (by rfl) _ _ rfl w.heap.size 0 rfl (coC vt (.slice (some ⟨b1, o1, none⟩) n cc) c) _ bp.range Try.underlying30 rfl IC.out ?_))
          refine (openC_any _ c HC.out g (q : Int) W hXW).mono ?_
          rintro e w1 ⟨rfl, hb1⟩
          go_wp2_with fail
          go_ret2
          exact ⟨by rw [HO.out]; rfl, hbw.trans (hb1.mono hbw.size)⟩
        · have HO : Hid (claimE c i (q : Int) g = (0, 1)) := (show _ = _ by unfold claimE; rw [if_neg (by simp [hpi, hpg]), if_neg (by rw [HN.out]; simp; omega), HG.out, if_pos hby])
          have t2 : (x.by_ != i) = true := by simpa using hby
          go_wp2_with fail
          go_ret2
          exact ⟨by rw [HO.out]; rfl, hbw⟩
      · have HO : Hid (claimE c i k g = (0, 2)) := (show _ = _ by unfold claimE; rw [if_neg (by simp [hpi, hpg]), if_pos (by rw [HN.out]; exact hk)])
        by_cases h0 : k < 0
        · go_wp2_with fail
          go_ret2
          exact ⟨by rw [HO.out]; rfl, hbw⟩
        · have t1 : (n : Int) ≤ k := by omega
          go_wp2_with fail
          go_ret2
          exact ⟨by rw [HO.out]; rfl, hbw⟩
    · refine (party_no g W hpg).mono ?_
      rintro e W' ⟨rfl, rfl⟩
      have HO : Hid (claimE c i k g = (0, 1)) := (show _ = _ by unfold claimE; rw [if_pos (.inr hpg)])
      go_wp2_with fail
      go_ret2
      exact ⟨by rw [HO.out]; rfl, hbw⟩
  · refine (party_no i W hpi).mono ?_
    rintro e W' ⟨rfl, rfl⟩
    have HO : Hid (claimE c i k g = (0, 1)) := (show _ = _ by unfold claimE; rw [if_pos (.inl hpi)])
    go_wp2_with fail
    go_ret2
    exact ⟨by rw [HO.out]; rfl, hbw⟩
end Go.Proofs.Ytdopgooglicaiaa
/- The walks of court.Middle, court.Side, of a court of one claim. -/
set_option linter.unusedSimpArgs false
set_option linter.unusedVariables false
namespace Go.Proofs.Ytdopgooglicaiaa
open Go.RowKit
set_option maxRecDepth 100000
theorem refB_len (q : Nat) : ∀ (l : List SU) (j : Nat) (bk : List Int), (refB q l j bk).length = bk.length
  | [], _, _ => rfl
  | s :: l, j, bk => by
    rw [refB, refB_len q l]
    split
    · exact addB_len _ _ _
    · rfl
theorem settleC_ok {c : CO} {x : CL} (hc : c.ok) (hcl : c.claims = [x]) (q : Nat) (s : SU) : (settleC c x q s).ok ∧ (settleC c x q s).claims = [settleX x s] := by
  have hx : x.ok := hc.claims x (by rw [hcl]; simp)
  unfold settleC settleX
  split
  · exact ⟨⟨hc.pre, hc.txs, hc.n, by show (addB _ _ _).length = 8; rw [addB_len]; exact hc.bank, hc.claims, hc.m⟩, hcl⟩
  · exact ⟨⟨hc.pre, hc.txs, hc.n, by show (refB _ _ _ _).length = 8; rw [refB_len, addB_len]; exact hc.bank, fun y hy => by rw [List.mem_singleton.1 hy]; exact ⟨hx.root, hx.suits, hx.n⟩, by show [_].length ≤ 4096; simp⟩, rfl⟩
theorem layC_ok {c : CO} {x : CL} (hc : c.ok) (hcl : c.claims = [x]) (q : Nat) {s : SU} (hs : s.ok) : (layC c x q s).ok ∧ (layC c x q s).claims = [layX x q s] := by
  have hx : x.ok := hc.claims x (by rw [hcl]; simp)
  have h0 : CO.ok { c with claims := [layX0 x q s] } := ⟨hc.pre, hc.txs, hc.n, hc.bank, fun y hy => by
    rw [List.mem_singleton.1 hy]
    refine ⟨hx.root, fun z hz => ?_, by show (x.suits.set _ _).length ≤ _; rw [List.length_set]; exact hx.n⟩
    rcases List.mem_or_eq_of_mem_set hz with h1 | h1
    · exact hx.suits z h1
    · rw [h1]
      exact hs, by show [_].length ≤ 4096; simp⟩
  unfold layC layX
  split
  · exact settleC_ok h0 rfl q s
  · exact ⟨h0, rfl⟩
theorem movedR_ok {c : CO} {x : CL} (hc : c.ok) (hcl : c.claims = [x]) (q : Nat) {s : SU} (hs : s.ok) (r : GD × Int) (hr : GLen r.1) : (movedR c x q s r).1.ok := by
  unfold movedR
  split
  · exact (layC_ok hc hcl q (s := layS s r.1 s.hs) ⟨hr, hs.hs, hs.n⟩).1
  · exact hc
set_option maxRecDepth 100000 in
set_option maxHeartbeats 4000000 in
theorem middle_err (v : Value) (c : CO) (hc : c.ok) (i k g : Int) (mid : List UInt8) (hm : mid.length = 32) (E : Int) (hE : claimE c i k g = (0, E)) (hE0 : E ≠ 0) (w : World) (h : CoX [] w v c) : Calls Try.prog 15 #[v, .int .i64 i, .int .i64 k, .int .i64 g, hv mid] w (RCe w c E) := by
  try unfold hv
  obtain ⟨vt, vc, rfl, hx⟩ := h
  have hX : CoX [] w (.agg (coC vt vc c).toArray) c := ⟨vt, vc, rfl, hx⟩
  obtain ⟨W, HW, hbw, bp, bx, bz⟩ : ∃ W, Hid (W = ((w.alloc (.cells (coC vt vc c).toArray 30)).alloc (.cells (B8 mid).toArray 25)).alloc (.cells #[.int .i64 0, .int .u8 0, .int .u8 0, .int .u8 0, .int .u8 0, .int .u8 0, .int .u8 0, .int .u8 0, .int .u8 0, .int .u8 0, .int .u8 0, .int .u8 0, .int .u8 0, .int .u8 0, .int .u8 0, .int .u8 0, .int .u8 0, .int .u8 0, .int .u8 0, .int .u8 0, .int .u8 0, .int .u8 0, .int .u8 0, .int .u8 0, .int .u8 0, .int .u8 0, .int .u8 0, .int .u8 0, .int .u8 0, .int .u8 0, .int .u8 0, .int .u8 0, .int .u8 0, .slice none 0 0, .int .i64 0, .int .i64 0, .int .i64 0, .int .i64 0, .int .i64 0, .int .i64 0, .int .i64 0, .int .i64 0, .slice none 0 0] 30)) ∧ Below w.heap.size w W ∧
      Blk W w.heap.size 30 (coC vt vc c) ∧ Blk W (w.heap.size + 1) 25 (B8 mid) ∧ Blk W (w.heap.size + 2) 30 zeroCC := by
    refine ⟨_, rfl, (((Below.refl _ _).alloc (Nat.le_refl _) _).alloc (by simp) _).alloc (by simp; omega) _, ?_, ?_, ?_⟩
    · exact (Blk.new w (coC vt vc c).toArray 30).to (((Below.refl _ _).alloc (Nat.le_refl _) _).alloc (by simp) _)
    · have := (Blk.new (w.alloc (.cells (coC vt vc c).toArray 30)) (B8 mid).toArray 25).to ((Below.refl _ _).alloc (Nat.le_refl _) (.cells #[.int .i64 0, .int .u8 0, .int .u8 0, .int .u8 0, .int .u8 0, .int .u8 0, .int .u8 0, .int .u8 0, .int .u8 0, .int .u8 0, .int .u8 0, .int .u8 0, .int .u8 0, .int .u8 0, .int .u8 0, .int .u8 0, .int .u8 0, .int .u8 0, .int .u8 0, .int .u8 0, .int .u8 0, .int .u8 0, .int .u8 0, .int .u8 0, .int .u8 0, .int .u8 0, .int .u8 0, .int .u8 0, .int .u8 0, .int .u8 0, .int .u8 0, .int .u8 0, .int .u8 0, .slice none 0 0, .int .i64 0, .int .i64 0, .int .i64 0, .int .i64 0, .int .i64 0, .int .i64 0, .int .i64 0, .int .i64 0, .slice none 0 0] 30))
      simpa using this
    · have := Blk.new ((w.alloc (.cells (coC vt vc c).toArray 30)).alloc (.cells (B8 mid).toArray 25)) #[.int .i64 0, .int .u8 0, .int .u8 0, .int .u8 0, .int .u8 0, .int .u8 0, .int .u8 0, .int .u8 0, .int .u8 0, .int .u8 0, .int .u8 0, .int .u8 0, .int .u8 0, .int .u8 0, .int .u8 0, .int .u8 0, .int .u8 0, .int .u8 0, .int .u8 0, .int .u8 0, .int .u8 0, .int .u8 0, .int .u8 0, .int .u8 0, .int .u8 0, .int .u8 0, .int .u8 0, .int .u8 0, .int .u8 0, .int .u8 0, .int .u8 0, .int .u8 0, .int .u8 0, .slice none 0 0, .int .i64 0, .int .i64 0, .int .i64 0, .int .i64 0, .int .i64 0, .int .i64 0, .int .i64 0, .int .i64 0, .slice none 0 0] 30
      rw [show ((w.alloc (.cells (coC vt vc c).toArray 30)).alloc (.cells (B8 mid).toArray 25)).heap.size = w.heap.size + 2 from by simp] at this
      exact this
  have HC := Lib.hid hc
  have HX := Lib.hid (hX.to hbw)
  have HE := Lib.hid hE
  have ICO := Lib.hid (info_co (vt := vt) (vc := vc) hc.pre hc.bank)
  have hWz := bz.lt
  have t1 : (E == 0) = false := by simpa using hE0
  have t2 : (E != 0) = true := by simpa using hE0
  clear hc hx hX hE
  go_enter Try.func15, Try.ntmps15
  go_upto_region 1 with fail
  refine wp_at HW.out ?_
  clear HW
  go_wp2_with (first
    | (refine wpl_load_fld (by rfl) _ _ rfl w.heap.size 0 rfl (coC vt vc c) _ bp.range Try.underlying30 rfl ICO.out ?_))
  refine (claimant_any _ c HC.out i k g W HX.out).mono ?_
  rintro e w1 ⟨rfl, hb1⟩
  rw [HE.out]
  dsimp only
  have bp1 := bp.to hb1
  have bz1 := bz.to hb1
  have HX1 := Lib.hid (HX.out.to hb1)
  have f1 := hbw.trans (hb1.mono hbw.size)
  have hw1 := hb1.size
  clear bp bz HX hbw hb1 bx
  go_wp2_with (first
    | (refine wpl_load_fld (by rfl) _ _ rfl w.heap.size 0 rfl (coC vt vc c) _ bp1.range Try.underlying30 rfl ICO.out ?_))
  refine (ownC_any _ c HC.out w1 HX1.out).mono ?_
  intro e w6 hro
  obtain ⟨vt6, vc6, rfl, o6t, o6c, hb6, hfin⟩ := hro.xt HC.out
  have hz9 := bz1.lt
  have bz6 := bz1.to hb6
  have f6 := f1.trans (hb6.mono f1.size)
  have hf9 := f1.size
  have IC6 := Lib.hid (info_co (vt := vt6) (vc := vc6) (c := c) HC.out.pre HC.out.bank)
  have HL6 : Hid ((coC vt6 vc6 c).length = 43) := Lib.hid (coC_len (c := c) HC.out.pre HC.out.bank)
  clear hro bz1 f1 HX1 bp1
  go_wp2_with (first
    | (refine wpl_store_fld (by rfl) _ _ _ rfl (w.heap.size + 2) 0 _ _ (coC vt6 vc6 c) rfl _ rfl rfl bz6 (by rw [HL6.out]; exact Nat.le_refl _) IC6.out (coC_one o6t o6c) ?_
       intro w7 bz7 bu7
       rw [put_all _ _ (by rw [HL6.out]; rfl)] at bz7))
  refine bodyPost_ret (results_blk2 Try.results15 rfl rfl bz7 Try.underlying30 rfl IC6.out) rfl ?_
  refine ⟨_, rfl, ?_, f6.trans (below_but bu7 (by omega) f6.size)⟩
  exact fun S hS => hfin (w.heap.size + 2) w7 hz9 bu7 S (fun b hb => by have := hS b hb; omega)
set_option maxRecDepth 100000 in
set_option maxHeartbeats 4000000 in
theorem middle_ok (v : Value) (c : CO) (hc : c.ok) (i g : Int) (mid : List UInt8) (hm : mid.length = 32) (x : CL) (hcl : c.claims = [x]) (q : Nat) (s : SU) (hq : x.suits[q]? = some s) (hne : ∀ y ∈ x.suits, y.hs ≠ []) (hby : 0 ≤ x.by_ ∧ x.by_ < 8) (hsb : ∀ y ∈ x.suits, 0 ≤ y.by_ ∧ y.by_ < 8) (hbk : BkB 10000000 c.bank)
    (m1 : 0 ≤ s.g.moves) (m2 : s.g.moves ≤ 1099511627776) (hE : claimE c i 0 g = ((q : Int), 0)) (w : World) (h : CoX [] w v c) : Calls Try.prog 15 #[v, .int .i64 i, .int .i64 0, .int .i64 g, hv mid] w (RCe w (movedR c x q s (sayD s.g mid c.now)).1 (movedR c x q s (sayD s.g mid c.now)).2) := by
  try unfold hv
  obtain ⟨vt, vc, rfl, hx⟩ := h
  have hX : CoX [] w (.agg (coC vt vc c).toArray) c := ⟨vt, vc, rfl, hx⟩
  obtain ⟨W, HW, hbw, bp, bx, bz⟩ : ∃ W, Hid (W = ((w.alloc (.cells (coC vt vc c).toArray 30)).alloc (.cells (B8 mid).toArray 25)).alloc (.cells #[.int .i64 0, .int .u8 0, .int .u8 0, .int .u8 0, .int .u8 0, .int .u8 0, .int .u8 0, .int .u8 0, .int .u8 0, .int .u8 0, .int .u8 0, .int .u8 0, .int .u8 0, .int .u8 0, .int .u8 0, .int .u8 0, .int .u8 0, .int .u8 0, .int .u8 0, .int .u8 0, .int .u8 0, .int .u8 0, .int .u8 0, .int .u8 0, .int .u8 0, .int .u8 0, .int .u8 0, .int .u8 0, .int .u8 0, .int .u8 0, .int .u8 0, .int .u8 0, .int .u8 0, .slice none 0 0, .int .i64 0, .int .i64 0, .int .i64 0, .int .i64 0, .int .i64 0, .int .i64 0, .int .i64 0, .int .i64 0, .slice none 0 0] 30)) ∧ Below w.heap.size w W ∧
      Blk W w.heap.size 30 (coC vt vc c) ∧ Blk W (w.heap.size + 1) 25 (B8 mid) ∧ Blk W (w.heap.size + 2) 30 zeroCC := by
    refine ⟨_, rfl, (((Below.refl _ _).alloc (Nat.le_refl _) _).alloc (by simp) _).alloc (by simp; omega) _, ?_, ?_, ?_⟩
    · exact (Blk.new w (coC vt vc c).toArray 30).to (((Below.refl _ _).alloc (Nat.le_refl _) _).alloc (by simp) _)
    · have := (Blk.new (w.alloc (.cells (coC vt vc c).toArray 30)) (B8 mid).toArray 25).to ((Below.refl _ _).alloc (Nat.le_refl _) (.cells #[.int .i64 0, .int .u8 0, .int .u8 0, .int .u8 0, .int .u8 0, .int .u8 0, .int .u8 0, .int .u8 0, .int .u8 0, .int .u8 0, .int .u8 0, .int .u8 0, .int .u8 0, .int .u8 0, .int .u8 0, .int .u8 0, .int .u8 0, .int .u8 0, .int .u8 0, .int .u8 0, .int .u8 0, .int .u8 0, .int .u8 0, .int .u8 0, .int .u8 0, .int .u8 0, .int .u8 0, .int .u8 0, .int .u8 0, .int .u8 0, .int .u8 0, .int .u8 0, .int .u8 0, .slice none 0 0, .int .i64 0, .int .i64 0, .int .i64 0, .int .i64 0, .int .i64 0, .int .i64 0, .int .i64 0, .int .i64 0, .slice none 0 0] 30))
      simpa using this
    · have := Blk.new ((w.alloc (.cells (coC vt vc c).toArray 30)).alloc (.cells (B8 mid).toArray 25)) #[.int .i64 0, .int .u8 0, .int .u8 0, .int .u8 0, .int .u8 0, .int .u8 0, .int .u8 0, .int .u8 0, .int .u8 0, .int .u8 0, .int .u8 0, .int .u8 0, .int .u8 0, .int .u8 0, .int .u8 0, .int .u8 0, .int .u8 0, .int .u8 0, .int .u8 0, .int .u8 0, .int .u8 0, .int .u8 0, .int .u8 0, .int .u8 0, .int .u8 0, .int .u8 0, .int .u8 0, .int .u8 0, .int .u8 0, .int .u8 0, .int .u8 0, .int .u8 0, .int .u8 0, .slice none 0 0, .int .i64 0, .int .i64 0, .int .i64 0, .int .i64 0, .int .i64 0, .int .i64 0, .int .i64 0, .int .i64 0, .slice none 0 0] 30
      rw [show ((w.alloc (.cells (coC vt vc c).toArray 30)).alloc (.cells (B8 mid).toArray 25)).heap.size = w.heap.size + 2 from by simp] at this
      exact this
  have HC := Lib.hid hc
  have HX := Lib.hid (hX.to hbw)
  have HE := Lib.hid hE
  have ICO := Lib.hid (info_co (vt := vt) (vc := vc) hc.pre hc.bank)
  have hWz := bz.lt
  have HCL := Lib.hid hcl
  have HQ := Lib.hid hq
  have HNE := Lib.hid hne
  have HBY := Lib.hid hby
  have HSB := Lib.hid hsb
  have HBK := Lib.hid hbk
  have HSO := Lib.hid ((hc.claims x (by rw [hcl]; simp)).suits s (List.mem_of_getElem? hq))
  have HM1 := Lib.hid m1
  have HM2 := Lib.hid m2
  have HMD := Lib.hid hm
  clear hm
  clear hcl hq hne hby hsb hbk m1 m2
  clear hc hx hX hE
  go_enter Try.func15, Try.ntmps15
  go_upto_region 1 with fail
  refine wp_at HW.out ?_
  clear HW
  go_wp2_with (first
    | (refine wpl_load_fld (by rfl) _ _ rfl w.heap.size 0 rfl (coC vt vc c) _ bp.range Try.underlying30 rfl ICO.out ?_))
  refine (claimant_any _ c HC.out i 0 g W HX.out).mono ?_
  rintro e w1 ⟨rfl, hb1⟩
  rw [HE.out]
  dsimp only
  have bp1 := bp.to hb1
  have bz1 := bz.to hb1
  have HX1 := Lib.hid (HX.out.to hb1)
  have bx1 := bx.to hb1
  have f1 := hbw.trans (hb1.mono hbw.size)
  have hw1 := hb1.size
  clear bp bz HX hbw hb1 bx
  go_wp2_with (first
    | (refine wpl_load_fld (by rfl) _ _ rfl w.heap.size 0 rfl (coC vt vc c) _ bp1.range Try.underlying30 rfl ICO.out ?_))
  refine (moved_mid _ c HC.out x HCL.out q s HQ.out HNE.out HBY.out HSB.out HBK.out HM1.out HM2.out mid HMD.out (w.heap.size + 1) w1 bx1 HX1.out).mono ?_
  rintro e w5 ⟨v5, rfl, hs5, hb5⟩
  obtain ⟨c5, hc5⟩ : ∃ c5, (movedR c x q s (sayD s.g mid c.now)).1 = c5 := ⟨_, rfl⟩
  obtain ⟨e5, he5⟩ : ∃ e5, (movedR c x q s (sayD s.g mid c.now)).2 = e5 := ⟨_, rfl⟩
  rw [hc5] at hs5
  simp only [he5]
  have HC5 := Lib.hid hc5
  have HE5 := Lib.hid he5
  have h5o : c5.ok := by
    rw [← hc5]
    exact movedR_ok HC.out HCL.out q HSO.out _ (sayD_ok HSO.out.g HMD.out _)
  have H5O := Lib.hid h5o
  have HS5 := Lib.hid hs5
  obtain ⟨vt5, vc5, rfl, ht5, hvc5⟩ := hs5 [] (fun _ h => by cases h)
  have o5t := ht5.one
  have o5c := hvc5.one
  have I5 := Lib.hid (info_co (vt := vt5) (vc := vc5) (c := c5) h5o.pre h5o.bank)
  have L5 : Hid ((coC vt5 vc5 c5).length = 43) := Lib.hid (coC_len (c := c5) h5o.pre h5o.bank)
  have hz9 := bz1.lt
  have bz5 := bz1.to hb5
  have f5 := f1.trans (hb5.mono f1.size)
  have hf9 := f1.size
  clear hs5 ht5 hvc5 h5o hc5 he5 hb5 bz1 f1
  go_wp2_with (first
    | (refine wpl_store_fld (by rfl) _ _ _ rfl (w.heap.size + 2) 0 _ _ (coC vt5 vc5 c5) rfl _ rfl rfl bz5 (by rw [L5.out]; exact Nat.le_refl _) I5.out (coC_one o5t o5c) ?_
       intro w7 bz7 bu7
       rw [put_all _ _ (by rw [L5.out]; rfl)] at bz7))
  refine bodyPost_ret (results_blk2 Try.results15 rfl rfl bz7 Try.underlying30 rfl I5.out) rfl ?_
  rw [HC5.out]
  try rw [HE5.out]
  refine ⟨_, rfl, ?_, f5.trans (below_but bu7 (by omega) f5.size)⟩
  intro S hS
  refine ((HS5.out ((w.heap.size + 2) :: S) (fun b hb => ?_)).but bu7 (by simp)).less (fun b hb => List.mem_cons_of_mem _ hb)
  rcases List.mem_cons.1 hb with h | h
  · omega
  · have := hS b h
    omega
set_option maxRecDepth 100000 in
set_option maxHeartbeats 4000000 in
theorem side_err (v : Value) (c : CO) (hc : c.ok) (i k : Int) (right : Bool) (hp : partyB i) (E : Int) (hE : openE c i k = (0, E)) (hE0 : E ≠ 0) (w : World) (h : CoX [] w v c) : Calls Try.prog 20 #[v, .int .i64 i, .int .i64 k, .bool right] w (RCe w c E) := by
  try unfold hv
  obtain ⟨vt, vc, rfl, hx⟩ := h
  have hX : CoX [] w (.agg (coC vt vc c).toArray) c := ⟨vt, vc, rfl, hx⟩
  obtain ⟨W, HW, hbw, bp, bx, bz⟩ : ∃ W, Hid (W = ((w.alloc (.cells (coC vt vc c).toArray 30)).alloc (.cells #[.bool right] 4)).alloc (.cells #[.int .i64 0, .int .u8 0, .int .u8 0, .int .u8 0, .int .u8 0, .int .u8 0, .int .u8 0, .int .u8 0, .int .u8 0, .int .u8 0, .int .u8 0, .int .u8 0, .int .u8 0, .int .u8 0, .int .u8 0, .int .u8 0, .int .u8 0, .int .u8 0, .int .u8 0, .int .u8 0, .int .u8 0, .int .u8 0, .int .u8 0, .int .u8 0, .int .u8 0, .int .u8 0, .int .u8 0, .int .u8 0, .int .u8 0, .int .u8 0, .int .u8 0, .int .u8 0, .int .u8 0, .slice none 0 0, .int .i64 0, .int .i64 0, .int .i64 0, .int .i64 0, .int .i64 0, .int .i64 0, .int .i64 0, .int .i64 0, .slice none 0 0] 30)) ∧ Below w.heap.size w W ∧
      Blk W w.heap.size 30 (coC vt vc c) ∧ Blk W (w.heap.size + 1) 4 [.bool right] ∧ Blk W (w.heap.size + 2) 30 zeroCC := by
    refine ⟨_, rfl, (((Below.refl _ _).alloc (Nat.le_refl _) _).alloc (by simp) _).alloc (by simp; omega) _, ?_, ?_, ?_⟩
    · exact (Blk.new w (coC vt vc c).toArray 30).to (((Below.refl _ _).alloc (Nat.le_refl _) _).alloc (by simp) _)
    · have := (Blk.new (w.alloc (.cells (coC vt vc c).toArray 30)) #[.bool right] 4).to ((Below.refl _ _).alloc (Nat.le_refl _) (.cells #[.int .i64 0, .int .u8 0, .int .u8 0, .int .u8 0, .int .u8 0, .int .u8 0, .int .u8 0, .int .u8 0, .int .u8 0, .int .u8 0, .int .u8 0, .int .u8 0, .int .u8 0, .int .u8 0, .int .u8 0, .int .u8 0, .int .u8 0, .int .u8 0, .int .u8 0, .int .u8 0, .int .u8 0, .int .u8 0, .int .u8 0, .int .u8 0, .int .u8 0, .int .u8 0, .int .u8 0, .int .u8 0, .int .u8 0, .int .u8 0, .int .u8 0, .int .u8 0, .int .u8 0, .slice none 0 0, .int .i64 0, .int .i64 0, .int .i64 0, .int .i64 0, .int .i64 0, .int .i64 0, .int .i64 0, .int .i64 0, .slice none 0 0] 30))
      simpa using this
    · have := Blk.new ((w.alloc (.cells (coC vt vc c).toArray 30)).alloc (.cells #[.bool right] 4)) #[.int .i64 0, .int .u8 0, .int .u8 0, .int .u8 0, .int .u8 0, .int .u8 0, .int .u8 0, .int .u8 0, .int .u8 0, .int .u8 0, .int .u8 0, .int .u8 0, .int .u8 0, .int .u8 0, .int .u8 0, .int .u8 0, .int .u8 0, .int .u8 0, .int .u8 0, .int .u8 0, .int .u8 0, .int .u8 0, .int .u8 0, .int .u8 0, .int .u8 0, .int .u8 0, .int .u8 0, .int .u8 0, .int .u8 0, .int .u8 0, .int .u8 0, .int .u8 0, .int .u8 0, .slice none 0 0, .int .i64 0, .int .i64 0, .int .i64 0, .int .i64 0, .int .i64 0, .int .i64 0, .int .i64 0, .int .i64 0, .slice none 0 0] 30
      rw [show ((w.alloc (.cells (coC vt vc c).toArray 30)).alloc (.cells #[.bool right] 4)).heap.size = w.heap.size + 2 from by simp] at this
      exact this
  have HC := Lib.hid hc
  have HX := Lib.hid (hX.to hbw)
  have HE := Lib.hid hE
  have ICO := Lib.hid (info_co (vt := vt) (vc := vc) hc.pre hc.bank)
  have hWz := bz.lt
  have t1 : (E == 0) = false := by simpa using hE0
  have t2 : (E != 0) = true := by simpa using hE0
  clear hc hx hX hE
  go_enter Try.func20, Try.ntmps20
  go_upto_region 1 with fail
  refine wp_at HW.out ?_
  clear HW
  go_wp2_with fail
  refine (party_yes _ W hp).mono ?_
  rintro e w' ⟨rfl, rfl⟩
  go_wp2_with (first
    | (refine wpl_load_fld (by rfl) _ _ rfl w.heap.size 0 rfl (coC vt vc c) _ bp.range Try.underlying30 rfl ICO.out ?_))
  refine (openC_any _ c HC.out i k W HX.out).mono ?_
  rintro e w1 ⟨rfl, hb1⟩
  rw [HE.out]
  dsimp only
  have bp1 := bp.to hb1
  have bz1 := bz.to hb1
  have HX1 := Lib.hid (HX.out.to hb1)
  have f1 := hbw.trans (hb1.mono hbw.size)
  have hw1 := hb1.size
  clear bp bz HX hbw hb1 bx
  go_wp2_with (first
    | (refine wpl_load_fld (by rfl) _ _ rfl w.heap.size 0 rfl (coC vt vc c) _ bp1.range Try.underlying30 rfl ICO.out ?_))
  refine (ownC_any _ c HC.out w1 HX1.out).mono ?_
  intro e w6 hro
  obtain ⟨vt6, vc6, rfl, o6t, o6c, hb6, hfin⟩ := hro.xt HC.out
  have hz9 := bz1.lt
  have bz6 := bz1.to hb6
  have f6 := f1.trans (hb6.mono f1.size)
  have hf9 := f1.size
  have IC6 := Lib.hid (info_co (vt := vt6) (vc := vc6) (c := c) HC.out.pre HC.out.bank)
  have HL6 : Hid ((coC vt6 vc6 c).length = 43) := Lib.hid (coC_len (c := c) HC.out.pre HC.out.bank)
  clear hro bz1 f1 HX1 bp1
  go_wp2_with (first
    | (refine wpl_store_fld (by rfl) _ _ _ rfl (w.heap.size + 2) 0 _ _ (coC vt6 vc6 c) rfl _ rfl rfl bz6 (by rw [HL6.out]; exact Nat.le_refl _) IC6.out (coC_one o6t o6c) ?_
       intro w7 bz7 bu7
       rw [put_all _ _ (by rw [HL6.out]; rfl)] at bz7))
  refine bodyPost_ret (results_blk2 Try.results20 rfl rfl bz7 Try.underlying30 rfl IC6.out) rfl ?_
  refine ⟨_, rfl, ?_, f6.trans (below_but bu7 (by omega) f6.size)⟩
  exact fun S hS => hfin (w.heap.size + 2) w7 hz9 bu7 S (fun b hb => by have := hS b hb; omega)
set_option maxRecDepth 100000 in
set_option maxHeartbeats 4000000 in
theorem side_ok (v : Value) (c : CO) (hc : c.ok) (i : Int) (right : Bool) (hp : partyB i) (x : CL) (hcl : c.claims = [x]) (q : Nat) (s : SU) (hq : x.suits[q]? = some s) (hne : ∀ y ∈ x.suits, y.hs ≠ []) (hby : 0 ≤ x.by_ ∧ x.by_ < 8) (hsb : ∀ y ∈ x.suits, 0 ≤ y.by_ ∧ y.by_ < 8) (hbk : BkB 10000000 c.bank)
    (m1 : 0 ≤ s.g.moves) (m2 : s.g.moves ≤ 1099511627776) (l1 : 0 ≤ s.g.lo) (l2 : s.g.lo ≤ s.g.hi) (l3 : s.g.hi ≤ 1099511627776) (hE : openE c i 0 = ((q : Int), 0)) (w : World) (h : CoX [] w v c) : Calls Try.prog 20 #[v, .int .i64 i, .int .i64 0, .bool right] w (RCe w (movedR c x q s (chooseD s.g right c.now)).1 (movedR c x q s (chooseD s.g right c.now)).2) := by
  try unfold hv
  obtain ⟨vt, vc, rfl, hx⟩ := h
  have hX : CoX [] w (.agg (coC vt vc c).toArray) c := ⟨vt, vc, rfl, hx⟩
  obtain ⟨W, HW, hbw, bp, bx, bz⟩ : ∃ W, Hid (W = ((w.alloc (.cells (coC vt vc c).toArray 30)).alloc (.cells #[.bool right] 4)).alloc (.cells #[.int .i64 0, .int .u8 0, .int .u8 0, .int .u8 0, .int .u8 0, .int .u8 0, .int .u8 0, .int .u8 0, .int .u8 0, .int .u8 0, .int .u8 0, .int .u8 0, .int .u8 0, .int .u8 0, .int .u8 0, .int .u8 0, .int .u8 0, .int .u8 0, .int .u8 0, .int .u8 0, .int .u8 0, .int .u8 0, .int .u8 0, .int .u8 0, .int .u8 0, .int .u8 0, .int .u8 0, .int .u8 0, .int .u8 0, .int .u8 0, .int .u8 0, .int .u8 0, .int .u8 0, .slice none 0 0, .int .i64 0, .int .i64 0, .int .i64 0, .int .i64 0, .int .i64 0, .int .i64 0, .int .i64 0, .int .i64 0, .slice none 0 0] 30)) ∧ Below w.heap.size w W ∧
      Blk W w.heap.size 30 (coC vt vc c) ∧ Blk W (w.heap.size + 1) 4 [.bool right] ∧ Blk W (w.heap.size + 2) 30 zeroCC := by
    refine ⟨_, rfl, (((Below.refl _ _).alloc (Nat.le_refl _) _).alloc (by simp) _).alloc (by simp; omega) _, ?_, ?_, ?_⟩
    · exact (Blk.new w (coC vt vc c).toArray 30).to (((Below.refl _ _).alloc (Nat.le_refl _) _).alloc (by simp) _)
    · have := (Blk.new (w.alloc (.cells (coC vt vc c).toArray 30)) #[.bool right] 4).to ((Below.refl _ _).alloc (Nat.le_refl _) (.cells #[.int .i64 0, .int .u8 0, .int .u8 0, .int .u8 0, .int .u8 0, .int .u8 0, .int .u8 0, .int .u8 0, .int .u8 0, .int .u8 0, .int .u8 0, .int .u8 0, .int .u8 0, .int .u8 0, .int .u8 0, .int .u8 0, .int .u8 0, .int .u8 0, .int .u8 0, .int .u8 0, .int .u8 0, .int .u8 0, .int .u8 0, .int .u8 0, .int .u8 0, .int .u8 0, .int .u8 0, .int .u8 0, .int .u8 0, .int .u8 0, .int .u8 0, .int .u8 0, .int .u8 0, .slice none 0 0, .int .i64 0, .int .i64 0, .int .i64 0, .int .i64 0, .int .i64 0, .int .i64 0, .int .i64 0, .int .i64 0, .slice none 0 0] 30))
      simpa using this
    · have := Blk.new ((w.alloc (.cells (coC vt vc c).toArray 30)).alloc (.cells #[.bool right] 4)) #[.int .i64 0, .int .u8 0, .int .u8 0, .int .u8 0, .int .u8 0, .int .u8 0, .int .u8 0, .int .u8 0, .int .u8 0, .int .u8 0, .int .u8 0, .int .u8 0, .int .u8 0, .int .u8 0, .int .u8 0, .int .u8 0, .int .u8 0, .int .u8 0, .int .u8 0, .int .u8 0, .int .u8 0, .int .u8 0, .int .u8 0, .int .u8 0, .int .u8 0, .int .u8 0, .int .u8 0, .int .u8 0, .int .u8 0, .int .u8 0, .int .u8 0, .int .u8 0, .int .u8 0, .slice none 0 0, .int .i64 0, .int .i64 0, .int .i64 0, .int .i64 0, .int .i64 0, .int .i64 0, .int .i64 0, .int .i64 0, .slice none 0 0] 30
      rw [show ((w.alloc (.cells (coC vt vc c).toArray 30)).alloc (.cells #[.bool right] 4)).heap.size = w.heap.size + 2 from by simp] at this
      exact this
  have HC := Lib.hid hc
  have HX := Lib.hid (hX.to hbw)
  have HE := Lib.hid hE
  have ICO := Lib.hid (info_co (vt := vt) (vc := vc) hc.pre hc.bank)
  have hWz := bz.lt
  have HCL := Lib.hid hcl
  have HQ := Lib.hid hq
  have HNE := Lib.hid hne
  have HBY := Lib.hid hby
  have HSB := Lib.hid hsb
  have HBK := Lib.hid hbk
  have HSO := Lib.hid ((hc.claims x (by rw [hcl]; simp)).suits s (List.mem_of_getElem? hq))
  have HM1 := Lib.hid m1
  have HM2 := Lib.hid m2
  have HL1 := Lib.hid l1
  have HL2 := Lib.hid l2
  have HL3 := Lib.hid l3
  clear l1 l2 l3
  clear hcl hq hne hby hsb hbk m1 m2
  clear hc hx hX hE
  go_enter Try.func20, Try.ntmps20
  go_upto_region 1 with fail
  refine wp_at HW.out ?_
  clear HW
  go_wp2_with fail
  refine (party_yes _ W hp).mono ?_
  rintro e w' ⟨rfl, rfl⟩
  go_wp2_with (first
    | (refine wpl_load_fld (by rfl) _ _ rfl w.heap.size 0 rfl (coC vt vc c) _ bp.range Try.underlying30 rfl ICO.out ?_))
  refine (openC_any _ c HC.out i 0 W HX.out).mono ?_
  rintro e w1 ⟨rfl, hb1⟩
  rw [HE.out]
  dsimp only
  have bp1 := bp.to hb1
  have bz1 := bz.to hb1
  have HX1 := Lib.hid (HX.out.to hb1)
  have bx1 := bx.to hb1
  have f1 := hbw.trans (hb1.mono hbw.size)
  have hw1 := hb1.size
  clear bp bz HX hbw hb1 bx
  go_wp2_with (first
    | (refine wpl_load_fld (by rfl) _ _ rfl w.heap.size 0 rfl (coC vt vc c) _ bp1.range Try.underlying30 rfl ICO.out ?_))
  refine (moved_side _ c HC.out x HCL.out q s HQ.out HNE.out HBY.out HSB.out HBK.out HM1.out HM2.out HL1.out HL2.out HL3.out right (w.heap.size + 1) w1 bx1 HX1.out).mono ?_
  rintro e w5 ⟨v5, rfl, hs5, hb5⟩
  obtain ⟨c5, hc5⟩ : ∃ c5, (movedR c x q s (chooseD s.g right c.now)).1 = c5 := ⟨_, rfl⟩
  obtain ⟨e5, he5⟩ : ∃ e5, (movedR c x q s (chooseD s.g right c.now)).2 = e5 := ⟨_, rfl⟩
  rw [hc5] at hs5
  simp only [he5]
  have HC5 := Lib.hid hc5
  have HE5 := Lib.hid he5
  have h5o : c5.ok := by
    rw [← hc5]
    exact movedR_ok HC.out HCL.out q HSO.out _ (chooseD_ok HSO.out.g right _)
  have H5O := Lib.hid h5o
  have HS5 := Lib.hid hs5
  obtain ⟨vt5, vc5, rfl, ht5, hvc5⟩ := hs5 [] (fun _ h => by cases h)
  have o5t := ht5.one
  have o5c := hvc5.one
  have I5 := Lib.hid (info_co (vt := vt5) (vc := vc5) (c := c5) h5o.pre h5o.bank)
  have L5 : Hid ((coC vt5 vc5 c5).length = 43) := Lib.hid (coC_len (c := c5) h5o.pre h5o.bank)
  have hz9 := bz1.lt
  have bz5 := bz1.to hb5
  have f5 := f1.trans (hb5.mono f1.size)
  have hf9 := f1.size
  clear hs5 ht5 hvc5 h5o hc5 he5 hb5 bz1 f1
  go_wp2_with (first
    | (refine wpl_store_fld (by rfl) _ _ _ rfl (w.heap.size + 2) 0 _ _ (coC vt5 vc5 c5) rfl _ rfl rfl bz5 (by rw [L5.out]; exact Nat.le_refl _) I5.out (coC_one o5t o5c) ?_
       intro w7 bz7 bu7
       rw [put_all _ _ (by rw [L5.out]; rfl)] at bz7))
  refine bodyPost_ret (results_blk2 Try.results20 rfl rfl bz7 Try.underlying30 rfl I5.out) rfl ?_
  rw [HC5.out]
  try rw [HE5.out]
  refine ⟨_, rfl, ?_, f5.trans (below_but bu7 (by omega) f5.size)⟩
  intro S hS
  refine ((HS5.out ((w.heap.size + 2) :: S) (fun b hb => ?_)).but bu7 (by simp)).less (fun b hb => List.mem_cons_of_mem _ hb)
  rcases List.mem_cons.1 hb with h | h
  · omega
  · have := hS b h
    omega
set_option maxRecDepth 100000 in
set_option maxHeartbeats 4000000 in
theorem side_no (v : Value) (c : CO) (hc : c.ok) (i k : Int) (right : Bool) (hp : ¬ partyB i) (w : World) (h : CoX [] w v c) : Calls Try.prog 20 #[v, .int .i64 i, .int .i64 k, .bool right] w (RCe w c 1) := by
  try unfold hv
  obtain ⟨vt, vc, rfl, hx⟩ := h
  have hX : CoX [] w (.agg (coC vt vc c).toArray) c := ⟨vt, vc, rfl, hx⟩
  obtain ⟨W, HW, hbw, bp, bx, bz⟩ : ∃ W, Hid (W = ((w.alloc (.cells (coC vt vc c).toArray 30)).alloc (.cells #[.bool right] 4)).alloc (.cells #[.int .i64 0, .int .u8 0, .int .u8 0, .int .u8 0, .int .u8 0, .int .u8 0, .int .u8 0, .int .u8 0, .int .u8 0, .int .u8 0, .int .u8 0, .int .u8 0, .int .u8 0, .int .u8 0, .int .u8 0, .int .u8 0, .int .u8 0, .int .u8 0, .int .u8 0, .int .u8 0, .int .u8 0, .int .u8 0, .int .u8 0, .int .u8 0, .int .u8 0, .int .u8 0, .int .u8 0, .int .u8 0, .int .u8 0, .int .u8 0, .int .u8 0, .int .u8 0, .int .u8 0, .slice none 0 0, .int .i64 0, .int .i64 0, .int .i64 0, .int .i64 0, .int .i64 0, .int .i64 0, .int .i64 0, .int .i64 0, .slice none 0 0] 30)) ∧ Below w.heap.size w W ∧
      Blk W w.heap.size 30 (coC vt vc c) ∧ Blk W (w.heap.size + 1) 4 [.bool right] ∧ Blk W (w.heap.size + 2) 30 zeroCC := by
    refine ⟨_, rfl, (((Below.refl _ _).alloc (Nat.le_refl _) _).alloc (by simp) _).alloc (by simp; omega) _, ?_, ?_, ?_⟩
    · exact (Blk.new w (coC vt vc c).toArray 30).to (((Below.refl _ _).alloc (Nat.le_refl _) _).alloc (by simp) _)
    · have := (Blk.new (w.alloc (.cells (coC vt vc c).toArray 30)) #[.bool right] 4).to ((Below.refl _ _).alloc (Nat.le_refl _) (.cells #[.int .i64 0, .int .u8 0, .int .u8 0, .int .u8 0, .int .u8 0, .int .u8 0, .int .u8 0, .int .u8 0, .int .u8 0, .int .u8 0, .int .u8 0, .int .u8 0, .int .u8 0, .int .u8 0, .int .u8 0, .int .u8 0, .int .u8 0, .int .u8 0, .int .u8 0, .int .u8 0, .int .u8 0, .int .u8 0, .int .u8 0, .int .u8 0, .int .u8 0, .int .u8 0, .int .u8 0, .int .u8 0, .int .u8 0, .int .u8 0, .int .u8 0, .int .u8 0, .int .u8 0, .slice none 0 0, .int .i64 0, .int .i64 0, .int .i64 0, .int .i64 0, .int .i64 0, .int .i64 0, .int .i64 0, .int .i64 0, .slice none 0 0] 30))
      simpa using this
    · have := Blk.new ((w.alloc (.cells (coC vt vc c).toArray 30)).alloc (.cells #[.bool right] 4)) #[.int .i64 0, .int .u8 0, .int .u8 0, .int .u8 0, .int .u8 0, .int .u8 0, .int .u8 0, .int .u8 0, .int .u8 0, .int .u8 0, .int .u8 0, .int .u8 0, .int .u8 0, .int .u8 0, .int .u8 0, .int .u8 0, .int .u8 0, .int .u8 0, .int .u8 0, .int .u8 0, .int .u8 0, .int .u8 0, .int .u8 0, .int .u8 0, .int .u8 0, .int .u8 0, .int .u8 0, .int .u8 0, .int .u8 0, .int .u8 0, .int .u8 0, .int .u8 0, .int .u8 0, .slice none 0 0, .int .i64 0, .int .i64 0, .int .i64 0, .int .i64 0, .int .i64 0, .int .i64 0, .int .i64 0, .int .i64 0, .slice none 0 0] 30
      rw [show ((w.alloc (.cells (coC vt vc c).toArray 30)).alloc (.cells #[.bool right] 4)).heap.size = w.heap.size + 2 from by simp] at this
      exact this
  have HC := Lib.hid hc
  have HX := Lib.hid (hX.to hbw)
  have ICO := Lib.hid (info_co (vt := vt) (vc := vc) hc.pre hc.bank)
  have hWz := bz.lt
  clear hc hx hX
  go_enter Try.func20, Try.ntmps20
  go_upto_region 1 with fail
  refine wp_at HW.out ?_
  clear HW
  go_wp2_with fail
  refine (party_no _ W hp).mono ?_
  rintro e w1 ⟨rfl, hw1⟩
  subst hw1
  have bp1 := bp
  have bz1 := bz
  have HX1 := HX
  have f1 := hbw
  clear bp bz HX hbw bx
  go_wp2_with (first
    | (refine wpl_load_fld (by rfl) _ _ rfl w.heap.size 0 rfl (coC vt vc c) _ bp1.range Try.underlying30 rfl ICO.out ?_))
  refine (ownC_any _ c HC.out W HX1.out).mono ?_
  intro e w6 hro
  obtain ⟨vt6, vc6, rfl, o6t, o6c, hb6, hfin⟩ := hro.xt HC.out
  have hz9 := bz1.lt
  have bz6 := bz1.to hb6
  have f6 := f1.trans (hb6.mono f1.size)
  have hf9 := f1.size
  have IC6 := Lib.hid (info_co (vt := vt6) (vc := vc6) (c := c) HC.out.pre HC.out.bank)
  have HL6 : Hid ((coC vt6 vc6 c).length = 43) := Lib.hid (coC_len (c := c) HC.out.pre HC.out.bank)
  clear hro bz1 f1 HX1 bp1
  go_wp2_with (first
    | (refine wpl_store_fld (by rfl) _ _ _ rfl (w.heap.size + 2) 0 _ _ (coC vt6 vc6 c) rfl _ rfl rfl bz6 (by rw [HL6.out]; exact Nat.le_refl _) IC6.out (coC_one o6t o6c) ?_
       intro w7 bz7 bu7
       rw [put_all _ _ (by rw [HL6.out]; rfl)] at bz7))
  refine bodyPost_ret (results_blk2 Try.results20 rfl rfl bz7 Try.underlying30 rfl IC6.out) rfl ?_
  refine ⟨_, rfl, ?_, f6.trans (below_but bu7 (by omega) f6.size)⟩
  exact fun S hS => hfin (w.heap.size + 2) w7 hz9 bu7 S (fun b hb => by have := hS b hb; omega)
end Go.Proofs.Ytdopgooglicaiaa
/- What CourtMoves does to its court: plain. -/
set_option linter.unusedSimpArgs false
set_option linter.unusedVariables false
namespace Go.Proofs.Ytdopgooglicaiaa
open Go.RowKit
set_option maxRecDepth 100000
theorem one_open {c : CO} {x : CL} {s : SU} (hcl : c.claims = [x]) (hs : x.suits = [s]) (hst : x.st = 1) (i : Int) : openE c i 0 = if s.by_ = i then (0, 0) else (0, 2) := by
  have hf : findC c i 0 = if s.by_ = i then 0 else -1 := by
    unfold findC
    rw [hcl, if_pos (by simp)]
    show findS i x.suits 0 = _
    rw [hs]
    rfl
  unfold openE
  rw [hf, hcl]
  by_cases h : s.by_ = i
  · rw [if_pos h, if_pos h, if_neg (by decide), if_neg (by show ¬ x.st ≠ 1; rw [hst]; decide)]
  · rw [if_neg h, if_neg h, if_pos (by decide)]
theorem one_claim {c : CO} {x : CL} {s : SU} (hcl : c.claims = [x]) (hs : x.suits = [s]) (hst : x.st = 1) (i g : Int) : claimE c i 0 g = if ¬ partyB i ∨ ¬ partyB g then (0, 1) else if x.by_ ≠ i then (0, 1) else if s.by_ = g then (0, 0) else (0, 2) := by
  unfold claimE
  rw [one_open hcl hs hst]
  by_cases h : ¬ partyB i ∨ ¬ partyB g
  · rw [if_pos h, if_pos h]
  · rw [if_neg h, if_neg h, if_neg (by rw [hcl]; simp), hcl]
    rfl
theorem one_past {c : CO} {x : CL} (hcl : c.claims = [x]) (i g k : Int) (hk : 1 ≤ k) (hi : partyB i) (hg : partyB g) : claimE c i k g = (0, 2) := by
  unfold claimE
  rw [if_neg (by intro h; rcases h with h | h; exact h hi; exact h hg), if_pos (by rw [hcl]; simp; omega)]
def mvX0 : CL := ⟨2, 4, 0, 1, one_ 9, []⟩
def mvS : CO := saidC (hallC 300 (hashL 5)) 2 4 (one_ 9)
def mvG : GD := turnD (startD 4 (one_ 1) (one_ 9) 0)
def mvSu : SU := ⟨5, mvG, (hashL 5).take 4⟩
def mvX : CL := ⟨2, 4, 0, 1, one_ 9, [mvSu]⟩
def mvC : CO := ⟨0, one_ 1, hashL 5, [300, 300, 200, 300, 300, 200, 300, 300], [mvX]⟩
def mvG2 : GD := movedD { mvG with mid := one_ 7, turn := 2 } 0
def mvSu2 : SU := ⟨5, mvG2, (hashL 5).take 4⟩
def mvX2 : CL := ⟨2, 4, 0, 1, one_ 9, [mvSu2]⟩
def mvM : CO := ⟨0, one_ 1, hashL 5, [300, 300, 200, 300, 300, 200, 300, 300], [mvX2]⟩
def mvG3 : GD := movedD (turnD (halfD mvG2 true)) 0
def mvN : CO := ⟨0, one_ 1, hashL 5, [300, 300, 200, 300, 300, 200, 300, 300], [⟨2, 4, 0, 1, one_ 9, [⟨5, mvG3, (hashL 5).take 4⟩]⟩]⟩
theorem hl4 : ∀ x ∈ (hashL 5).take 4, x.length = 32 := fun x hx => hashL_all 5 x (List.mem_of_mem_take hx)
theorem mvS_ok : mvS.ok := by
  have h := hallC_ok 300 (hashL 5) (hashL_all 5) (by rw [hashL_len]; decide)
  exact ⟨h.pre, h.txs, h.n, rfl, fun x hx => by
    rcases List.mem_append.1 hx with h' | h'
    · cases h'
    · rw [List.mem_singleton.1 h']
      exact ⟨rfl, (by intro s hs; cases hs), Nat.zero_le _⟩, by decide⟩
theorem mvSu_ok : mvSu.ok := ⟨⟨rfl, rfl, rfl⟩, hl4, by show ((hashL 5).take 4).length ≤ _; rw [List.length_take]; omega⟩
theorem mvSu2_ok : mvSu2.ok := ⟨⟨rfl, rfl, rfl⟩, hl4, by show ((hashL 5).take 4).length ≤ _; rw [List.length_take]; omega⟩
theorem mv_ok_of (x : CL) (hx : x.ok) : CO.ok ⟨0, one_ 1, hashL 5, [300, 300, 200, 300, 300, 200, 300, 300], [x]⟩ :=
  ⟨rfl, hashL_all 5, by show (hashL 5).length ≤ _; rw [hashL_len]; decide, rfl, fun y hy => by rw [List.mem_singleton.1 hy]; exact hx, by show [_].length ≤ 4096; simp⟩
theorem mvX_ok (s : SU) (hs : s.ok) : CL.ok ⟨2, 4, 0, 1, one_ 9, [s]⟩ := ⟨rfl, fun y hy => by rw [List.mem_singleton.1 hy]; exact hs, by show [_].length ≤ 4096; simp⟩
theorem mvC_ok : mvC.ok := mv_ok_of _ (mvX_ok _ mvSu_ok)
theorem mvM_ok : mvM.ok := mv_ok_of _ (mvX_ok _ mvSu2_ok)
theorem mvN_ok : mvN.ok := mv_ok_of _ (mvX_ok _ ⟨⟨rfl, rfl, rfl⟩, hl4, by show ((hashL 5).take 4).length ≤ _; rw [List.length_take]; omega⟩)
theorem mv_sue : sueR mvS mvX0 5 0 = (mvC, 0) := by
  unfold sueR
  rw [if_neg (by decide), if_neg (by decide), if_neg (by decide), if_neg (by decide), if_neg (by decide)]
  rfl
theorem mv_bk : BkB 10000000 [300, 300, 200, 300, 300, 200, 300, 300] := ⟨rfl, by decide⟩
theorem mv_hne (g : GD) : ∀ y ∈ ([⟨5, g, (hashL 5).take 4⟩] : List SU), y.hs ≠ [] := fun y hy => by
  rw [List.mem_singleton.1 hy]
  show (hashL 5).take 4 ≠ []
  intro h
  have := congrArg List.length h
  rw [List.length_take, hashL_len] at this
  cases this
theorem mv_hsb (g : GD) : ∀ y ∈ ([⟨5, g, (hashL 5).take 4⟩] : List SU), 0 ≤ y.by_ ∧ y.by_ < 8 := fun y hy => by
  rw [List.mem_singleton.1 hy]
  show (0 : Int) ≤ 5 ∧ (5 : Int) < 8
  decide
theorem mv_say : movedR mvC mvX 0 mvSu (sayD mvSu.g (one_ 7) mvC.now) = (mvM, 0) := by
  have e : sayD mvSu.g (one_ 7) mvC.now = (mvG2, 0) := by
    show sayD mvG (one_ 7) 0 = _
    unfold sayD
    rw [if_pos (by decide)]
    rfl
  rw [e]
  unfold movedR
  rw [if_pos rfl]
  unfold layC
  rw [if_neg (by show ¬ mvG2.turn = 4; decide)]
  rfl
theorem mv_say2 (mid : List UInt8) : movedR mvM mvX2 0 mvSu2 (sayD mvSu2.g mid mvM.now) = (mvM, 17) := by
  have e : sayD mvSu2.g mid mvM.now = (mvG2, 17) := by
    show sayD mvG2 mid 0 = _
    unfold sayD
    rw [show mayE mvG2 1 0 = 17 from by decide, if_neg (by decide)]
  rw [e]
  unfold movedR
  rw [if_neg (by decide)]
theorem mv_side (r : Bool) : movedR mvC mvX 0 mvSu (chooseD mvSu.g r mvC.now) = (mvC, 17) := by
  have e : chooseD mvSu.g r mvC.now = (mvG, 17) := by
    show chooseD mvG r 0 = _
    unfold chooseD
    rw [show mayE mvG 2 0 = 17 from by decide, if_neg (by decide)]
  rw [e]
  unfold movedR
  rw [if_neg (by decide)]
theorem mv_side2 : movedR mvM mvX2 0 mvSu2 (chooseD mvSu2.g true mvM.now) = (mvN, 0) := by
  have e : chooseD mvSu2.g true mvM.now = (mvG3, 0) := by
    show chooseD mvG2 true 0 = _
    unfold chooseD
    rw [if_pos (by decide)]
    rfl
  rw [e]
  unfold movedR
  rw [if_pos rfl]
  unfold layC
  rw [if_neg (by show ¬ mvG3.turn = 4; decide)]
  rfl
theorem builtC7 : Try.prog.built 25 [(0, .int .u8 7)] = some (B8 (one_ 7)).toArray := by kernel_rfl
theorem builtC8 : Try.prog.built 25 [(0, .int .u8 8)] = some (B8 (one_ 8)).toArray := by kernel_rfl
end Go.Proofs.Ytdopgooglicaiaa
/- What CourtSilent does to its court: plain. -/
set_option linter.unusedSimpArgs false
set_option linter.unusedVariables false
namespace Go.Proofs.Ytdopgooglicaiaa
open Go.RowKit
set_option maxRecDepth 100000
def slS (k : Nat) (g : GD) : SU := ⟨((k + 1 : Nat) : Int), g, (hashL 5).take 4⟩
/-- so many sued, of whom the first so many have a middle -/
def slL (n j : Nat) : List SU := (List.range n).map fun k => slS k (if k < j then mvG2 else mvG)
def slX (n j : Nat) : CL := ⟨0, 4, 0, 1, one_ 9, slL n j⟩
def slK (n : Nat) : List Int := (List.range 8).map fun k => if k ≤ n then 200 else 300
def slC (n j : Nat) : CO := ⟨0, one_ 1, hashL 5, slK n, [slX n j]⟩
/-- the claimant fell silent -/
def slDX (n : Nat) : CL := ⟨0, 4, 0, 3, one_ 9, (List.range n).map fun k => slS k (if k = 0 then overD mvG false else mvG)⟩
def slDK (n : Nat) : List Int := (List.range 8).map fun k => if k = 0 then 200 else if k = 1 then 400 else 300
def slD (n : Nat) : CO := ⟨4, one_ 1, hashL 5, slDK n, [slDX n]⟩
/-- who sued fell silent -/
def slFX (n : Nat) : CL := ⟨0, 4, 0, 2, one_ 9, (List.range n).map fun k => slS k (overD mvG2 true)⟩
def slFK (n : Nat) : List Int := (List.range 8).map fun k => if k = 0 then 300 + 100 * (n : Int) else if k ≤ n then 200 else 300
def slF (n : Nat) : CO := ⟨4, one_ 1, hashL 5, slFK n, [slFX n]⟩
theorem sl_hs (k : Nat) (g : GD) (hg : GLen g) : (slS k g).ok := ⟨hg, hl4, by show ((hashL 5).take 4).length ≤ _; rw [List.length_take]; omega⟩
theorem mvG_len : GLen mvG := ⟨rfl, rfl, rfl⟩
theorem mvG2_len : GLen mvG2 := ⟨rfl, rfl, rfl⟩
theorem sl_all (n : Nat) (hn : n ≤ 4) (f : Nat → GD) (hf : ∀ k, GLen (f k)) : (∀ s ∈ (List.range n).map (fun k => slS k (f k)), s.ok) ∧ ((List.range n).map (fun k => slS k (f k))).length ≤ 4096 ∧ (∀ s ∈ (List.range n).map (fun k => slS k (f k)), s.hs ≠ []) ∧ (∀ s ∈ (List.range n).map (fun k => slS k (f k)), 0 ≤ s.by_ ∧ s.by_ < 8) := by
  refine ⟨fun s hs => ?_, by rw [List.length_map, List.length_range]; omega, fun s hs => ?_, fun s hs => ?_⟩
  · obtain ⟨k, _, rfl⟩ := List.mem_map.1 hs
    exact sl_hs k _ (hf k)
  · obtain ⟨k, _, rfl⟩ := List.mem_map.1 hs
    exact mv_hne (f k) ⟨5, f k, (hashL 5).take 4⟩ (by simp)
  · obtain ⟨k, hk, rfl⟩ := List.mem_map.1 hs
    rw [List.mem_range] at hk
    show 0 ≤ ((k + 1 : Nat) : Int) ∧ ((k + 1 : Nat) : Int) < 8
    omega
theorem sl_ok (now st : Int) (b : List Int) (hb : b.length = 8) (l : List SU) (h : (∀ s ∈ l, s.ok) ∧ l.length ≤ 4096) : CO.ok ⟨now, one_ 1, hashL 5, b, [⟨0, 4, 0, st, one_ 9, l⟩]⟩ :=
  ⟨rfl, hashL_all 5, by show (hashL 5).length ≤ _; rw [hashL_len]; decide, hb, fun y hy => by rw [List.mem_singleton.1 hy]; exact ⟨rfl, h.1, h.2⟩, by show [_].length ≤ 4096; simp⟩
theorem slL_f (n : Nat) (hn : n ≤ 4) (j : Nat) : (∀ s ∈ slL n j, s.ok) ∧ (slL n j).length ≤ 4096 ∧ (∀ s ∈ slL n j, s.hs ≠ []) ∧ (∀ s ∈ slL n j, 0 ≤ s.by_ ∧ s.by_ < 8) := sl_all n hn (fun k => if k < j then mvG2 else mvG) (fun k => by (try dsimp only); split; exact mvG2_len; exact mvG_len)
theorem slC_ok (n j : Nat) (hn : n ≤ 4) : (slC n j).ok := sl_ok _ _ _ rfl _ ⟨(slL_f n hn j).1, (slL_f n hn j).2.1⟩
theorem slD_ok (n : Nat) (hn : n ≤ 4) : (slD n).ok := sl_ok _ _ _ rfl _ (by
  have := sl_all n hn (fun k => if k = 0 then overD mvG false else mvG) (fun k => by (try dsimp only); split; exact ⟨rfl, rfl, rfl⟩; exact mvG_len)
  exact ⟨this.1, this.2.1⟩)
theorem slF_ok (n : Nat) (hn : n ≤ 4) : (slF n).ok := sl_ok _ _ _ rfl _ (by
  have := sl_all n hn (fun _ => overD mvG2 true) (fun _ => ⟨rfl, rfl, rfl⟩)
  exact ⟨this.1, this.2.1⟩)
theorem slK_at (n : Nat) (b : Nat) (hb : b < 8) : (slK n).getD b 0 = if b ≤ n then 200 else 300 := by
  unfold slK
  rw [List.getD_eq_getElem?_getD, List.getElem?_map, List.getElem?_range hb]
  rfl
theorem slDK_at (n : Nat) (b : Nat) (hb : b < 8) : (slDK n).getD b 0 = if b = 0 then 200 else if b = 1 then 400 else 300 := by
  unfold slDK
  rw [List.getD_eq_getElem?_getD, List.getElem?_map, List.getElem?_range hb]
  rfl
theorem slFK_at (n : Nat) (b : Nat) (hb : b < 8) : (slFK n).getD b 0 = if b = 0 then 300 + 100 * (n : Int) else if b ≤ n then 200 else 300 := by
  unfold slFK
  rw [List.getD_eq_getElem?_getD, List.getElem?_map, List.getElem?_range hb]
  rfl
theorem slK_bk (n : Nat) : BkB 1000000 (slK n) := ⟨rfl, fun b hb => by rw [slK_at n b hb]; split <;> omega⟩
theorem sl_say : saidC (hallC 300 (hashL 5)) 0 4 (one_ 9) = slC 0 0 := rfl
theorem sl_sue (j : Nat) (hj : j < 4) : sueR (slC j 0) (slX j 0) ((j + 1 : Nat) : Int) 0 = (slC (j + 1) 0, 0) := by
  have : j = 0 ∨ j = 1 ∨ j = 2 ∨ j = 3 := by omega
  rcases this with rfl | rfl | rfl | rfl <;>
  · unfold sueR
    rw [if_neg (by decide), if_neg (by decide), if_neg (by decide), if_neg (by decide), if_neg (by decide)]
    rfl
theorem sl_claim (n j : Nat) (hn : n ≤ 4) (hj : j < n) : claimE (slC n j) 0 0 ((j + 1 : Nat) : Int) = ((j : Int), 0) := by
  have hnn : n = 1 ∨ n = 2 ∨ n = 3 ∨ n = 4 := by omega
  have : j = 0 ∨ j = 1 ∨ j = 2 ∨ j = 3 := by omega
  rcases hnn with rfl | rfl | rfl | rfl <;> rcases this with rfl | rfl | rfl | rfl <;> first | (exfalso; omega) | decide
theorem sl_mid (n j : Nat) (hn : n ≤ 4) (hj : j < n) : movedR (slC n j) (slX n j) j (slS j mvG) (sayD (slS j mvG).g (one_ 7) (slC n j).now) = (slC n (j + 1), 0) := by
  have e : sayD (slS j mvG).g (one_ 7) (slC n j).now = (mvG2, 0) := by
    show sayD mvG (one_ 7) 0 = _
    unfold sayD
    rw [if_pos (by decide)]
    rfl
  rw [e]
  unfold movedR
  rw [if_pos rfl]
  unfold layC
  rw [if_neg (by show ¬ mvG2.turn = 4; decide)]
  have hnn : n = 1 ∨ n = 2 ∨ n = 3 ∨ n = 4 := by omega
  have : j = 0 ∨ j = 1 ∨ j = 2 ∨ j = 3 := by omega
  rcases hnn with rfl | rfl | rfl | rfl <;> rcases this with rfl | rfl | rfl | rfl <;> first | (exfalso; omega) | rfl
theorem sl_dead (n : Nat) (h1 : 1 ≤ n) (hn : n ≤ 4) : nextM (slC n 0) (slX n 0) 4 = slD n := by
  have : n = 1 ∨ n = 2 ∨ n = 3 ∨ n = 4 := by omega
  rcases this with rfl | rfl | rfl | rfl <;> rfl
theorem sl_final (n : Nat) (h1 : 1 ≤ n) (hn : n ≤ 4) : nextM (slC n n) (slX n n) 4 = slF n := by
  have : n = 1 ∨ n = 2 ∨ n = 3 ∨ n = 4 := by omega
  rcases this with rfl | rfl | rfl | rfl <;> rfl
theorem sl_done (n : Nat) (h1 : 1 ≤ n) (hn : n ≤ 4) : claimE (slD n) 0 0 1 = (0, 18) := by
  have : n = 1 ∨ n = 2 ∨ n = 3 ∨ n = 4 := by omega
  rcases this with rfl | rfl | rfl | rfl <;> decide
theorem sl_suit (n : Nat) (k : Nat) (hk : k < n) : (slFX n).suits[k]? = some (slS k (overD mvG2 true)) := by
  show ((List.range n).map _)[k]? = _
  rw [List.getElem?_map, List.getElem?_range hk]
  rfl
theorem sl_suit0 (n j k : Nat) (hk : k < n) : (slX n j).suits[k]? = some (slS k (if k < j then mvG2 else mvG)) := by
  show ((List.range n).map _)[k]? = _
  rw [List.getElem?_map, List.getElem?_range hk]
  rfl
end Go.Proofs.Ytdopgooglicaiaa
/- The walk of capstanlaw17.known. -/
set_option linter.unusedSimpArgs false
set_option linter.unusedVariables false
namespace Go.Proofs.Ytdopgooglicaiaa
open Go.RowKit
set_option maxRecDepth 100000
theorem one_snd {α β : Type} {l : List (α × β)} {x : β} (h : l.map (·.2) = [x]) : ∃ u, l = [(u, x)] := by
  cases l with
  | nil => cases h
  | cons p l =>
    cases l with
    | nil =>
      simp at h
      exact ⟨p.1, by rw [← h]⟩
    | cons q l => simp at h
set_option maxRecDepth 100000 in
set_option maxHeartbeats 4000000 in
theorem courtKnown_any (w : World) : Calls Try.prog 9 #[] w (RB true w) := by
  go_enter Try.func9, Try.ntmps9
  go_wp2_with (first
    | (refine wpl_build (by rfl) _ _ rfl _ (by exact builtC1) ?_))
  refine (newC_any (one_ 1) rfl 100 (by omega) (by omega) w).mono ?_
  rintro en w1 ⟨v1, rfl, hs1, hb1⟩
  obtain ⟨vt1, vc1, rfl, ht1, hc1⟩ := hs1 [] (fun _ h => by cases h)
  have o1t := ht1.one
  have o1c := hc1.one
  have I1 := Lib.hid (info_co (vt := vt1) (vc := vc1) (c := newCO 100) rfl rfl)
  have L1 : Hid ((coC vt1 vc1 (newCO 100)).length = 43) := Lib.hid (coC_len (c := newCO 100) rfl rfl)
  obtain ⟨C, hC⟩ : ∃ C, w1.heap.size = C := ⟨_, rfl⟩
  have hwC : w.heap.size ≤ C := by rw [← hC]; exact hb1.size
  have HC1 := Lib.hid hC
  clear hC
  have hbl : (B8 (one_ 2)).length = 32 := rfl
  clear hs1
  go_wp2_with (first
    | (refine wpl_store_new rfl _ _ _ rfl 30 _ (coC vt1 vc1 (newCO 100)) rfl rfl (by rw [L1.out]; rfl) I1.out (coC_one o1t o1c) ?_
       intro w2 d1 hb2
       simp only [Act.put, List.setIfInBounds_toArray, List.set_cons_zero, List.set_cons_succ]
       rw [HC1.out] at d1 ⊢)
    | (refine wpl_load_fld (by rfl) _ _ rfl C 0 rfl (coC vt1 vc1 (newCO 100)) _ d1.range Try.underlying30 rfl I1.out ?_)
    | (refine wpl_build (by rfl) _ _ rfl _ (by exact builtC2) ?_))
  rw [fold_sum' (one_ 2) rfl]
  have s2 : Sl (w2.alloc (.cells (B8 (one_ 2)).toArray 25)) 32 (some ⟨w2.heap.size, 0, none⟩) 1 (H8 [one_ 2]) := by
    have := Sl.new w2 (B8 (one_ 2)).toArray 25 (0, 0) (size := 32) 1 rfl
    simpa [H8] using this
  have h2a : Below w2.heap.size w2 (w2.alloc (.cells (B8 (one_ 2)).toArray 25)) := (Below.refl _ _).alloc (Nat.le_refl _) _
  have Y1 : CoX [] w1 (.agg (coC vt1 vc1 (newCO 100)).toArray) (newCO 100) := ⟨vt1, vc1, rfl, ht1, hc1⟩
  have g1 := hb1.trans (hb2.mono hb1.size)
  have e2 := d1.to h2a
  have Z1 := (Y1.to hb2).to h2a
  have g2 := g1.trans (h2a.mono g1.size)
  generalize w2.alloc (.cells (B8 (one_ 2)).toArray 25) = w3 at *
  clear hbl d1 hb2 h2a Y1 g1 ht1 hc1 hb1
  refine (addC_any _ (newCO 100) (newCO_ok 100) _ 1 1 [one_ 2] (by intro x hx; rw [List.mem_singleton.1 hx]; rfl) w3 s2 rfl (by decide) Z1).mono ?_
  rintro en w4 ⟨v2, rfl, hs2, hb2⟩
  change ∀ S : List Nat, _ → CoX S w4 v2 (hallC 100 [one_ 2]) at hs2
  have hC2 := e2.lt
  obtain ⟨vt2, vc2, rfl, ht2, hc2⟩ := hs2 [C] (fun b hb => by rw [List.mem_singleton.1 hb]; exact hC2)
  have b2 := e2.to hb2
  have f2 := g2.trans (hb2.mono g2.size)
  have o2t := ht2.one
  have o2c := hc2.one
  have I2 := Lib.hid (info_co (vt := vt2) (vc := vc2) (c := (hallC 100 [one_ 2])) rfl rfl)
  have L2 : Hid ((coC vt2 vc2 (hallC 100 [one_ 2])).length = 43) := Lib.hid (coC_len (c := (hallC 100 [one_ 2])) rfl rfl)
  have X2 : CoX [C] w4 (.agg (coC vt2 vc2 (hallC 100 [one_ 2])).toArray) (hallC 100 [one_ 2]) := ⟨vt2, vc2, rfl, ht2, hc2⟩
  clear hs2 ht2 hc2 hb2
  clear e2 g2 Z1 s2
  obtain ⟨c3, hc3e⟩ : ∃ c, saidC (hallC 100 [one_ 2]) 3 1 (one_ 4) = c := ⟨_, rfl⟩
  have HC3 := Lib.hid hc3e
  have HP3 : Hid (c3.pre.length = 32 ∧ c3.bank.length = 8) := (show _ ∧ _ by rw [← hc3e]; exact ⟨rfl, rfl⟩)
  have HO3 : Hid c3.ok := (show c3.ok from by
    rw [← hc3e]
    exact ⟨rfl, (by intro x hx; rw [List.mem_singleton.1 hx]; rfl), (by decide), rfl, (by intro x hx; rw [List.mem_singleton.1 hx]; exact ⟨rfl, (by intro s hs; cases hs), Nat.zero_le _⟩), (by decide)⟩)
  clear hc3e
  go_wp2_with (first
    | (refine wpl_store_fld (by rfl) _ _ _ rfl C 0 _ _ (coC vt2 vc2 (hallC 100 [one_ 2])) rfl _ rfl rfl b2 (by rw [L1.out, L2.out]; exact Nat.le_refl _) I2.out (coC_one o2t o2c) ?_
       intro w5 d2 u2
       rw [put_all _ _ (by rw [L1.out, L2.out])] at d2)
    | (refine wpl_load_fld (by rfl) _ _ rfl C 0 rfl (coC vt2 vc2 (hallC 100 [one_ 2])) _ d2.range Try.underlying30 rfl I2.out ?_)
    | (refine wpl_build (by rfl) _ _ rfl _ (by exact builtC4) ?_))
  have Y2 := cell_next X2 u2
  have g2 := f2.trans (below_but u2 hwC f2.size)
  clear X2 f2 b2 u2
  refine (sayC_any _ (hallC 100 [one_ 2]) (hallC_ok 100 [one_ 2] (by intro x hx; rw [List.mem_singleton.1 hx]; rfl) (by decide)) 3 1 (one_ 4) rfl w5 (by decide) Y2 (c3, 0) (.inr (.inr ⟨⟨by decide, by decide⟩, by decide, by decide, by decide, by decide, by rw [← HC3.out]; rfl⟩))).mono ?_
  rintro en w6 ⟨v3, rfl, hs3, hb3⟩
  have hC3 := d2.lt
  obtain ⟨vt3, vc3, rfl, ht3, hc3⟩ := hs3 [C] (fun b hb => by rw [List.mem_singleton.1 hb]; exact hC3)
  have b3 := d2.to hb3
  have f3 := g2.trans (hb3.mono g2.size)
  have o3t := ht3.one
  have o3c := hc3.one
  have I3 := Lib.hid (info_co (vt := vt3) (vc := vc3) (c := c3) HP3.out.1 HP3.out.2)
  have L3 : Hid ((coC vt3 vc3 c3).length = 43) := Lib.hid (coC_len (c := c3) HP3.out.1 HP3.out.2)
  have X3 : CoX [C] w6 (.agg (coC vt3 vc3 c3).toArray) c3 := ⟨vt3, vc3, rfl, ht3, hc3⟩
  clear hs3 ht3 hc3 hb3
  clear d2 g2 Y2
  obtain ⟨c4, hc4e⟩ : ∃ c, next0 c3 ⟨3, 1, 0, 1, one_ 4, []⟩ 3 4 = c := ⟨_, rfl⟩
  have HC4 := Lib.hid hc4e
  have HE4 : Hid (c4 = ⟨4, one_ 1, [one_ 2], [100, 100, 100, 100, 100, 100, 100, 100], [⟨3, 1, 0, 2, one_ 4, []⟩]⟩) := (show c4 = _ from by rw [← hc4e, ← HC3.out]; rfl)
  have HP4 : Hid (c4.pre.length = 32 ∧ c4.bank.length = 8) := (show _ ∧ _ by rw [HE4.out]; exact ⟨rfl, rfl⟩)
  clear hc4e
  go_wp2_with (first
    | (refine wpl_store_fld (by rfl) _ _ _ rfl C 0 _ _ (coC vt3 vc3 c3) rfl _ rfl rfl b3 (by rw [L2.out, L3.out]; exact Nat.le_refl _) I3.out (coC_one o3t o3c) ?_
       intro w7 d3 u3
       rw [put_all _ _ (by rw [L2.out, L3.out])] at d3)
    | (refine wpl_load_fld (by rfl) _ _ rfl C 0 rfl (coC vt3 vc3 c3) _ d3.range Try.underlying30 rfl I3.out ?_))
  have Y3 := cell_next X3 u3
  have g3 := f3.trans (below_but u3 hwC f3.size)
  clear X3 f3 b3 u3
  refine (next0_any _ c3 HO3.out ⟨3, 1, 0, 1, one_ 4, []⟩ (by rw [← HC3.out]; rfl) rfl 4 (by decide) (by rw [← HC3.out]; decide) (by decide) 3 (by decide) rfl (by rw [← HC3.out]; decide) w7 Y3).mono ?_
  rintro en w8 ⟨v4, rfl, hs4, hb4⟩
  rw [HC4.out] at hs4
  have hC4 := d3.lt
  obtain ⟨vt4, vc4, rfl, ht4, hc4⟩ := hs4 [C] (fun b hb => by rw [List.mem_singleton.1 hb]; exact hC4)
  have b4 := d3.to hb4
  have f4 := g3.trans (hb4.mono g3.size)
  have o4t := ht4.one
  have o4c := hc4.one
  have I4 := Lib.hid (info_co (vt := vt4) (vc := vc4) (c := c4) HP4.out.1 HP4.out.2)
  have L4 : Hid ((coC vt4 vc4 c4).length = 43) := Lib.hid (coC_len (c := c4) HP4.out.1 HP4.out.2)
  clear hs4 hb4 ht4
  clear d3 g3 Y3
  have hcl4 : c4.claims = [⟨3, 1, 0, 2, one_ 4, []⟩] := by rw [HE4.out]
  obtain ⟨Ac, nc, cc, l, rfl, slc, hml, hln, _, hav, _⟩ := hc4
  rw [hcl4] at hml
  obtain ⟨us, rfl⟩ := one_snd hml
  obtain rfl : nc = 1 := by simpa using hln.symm
  obtain ⟨bc, oc, rfl, hltc⟩ := slc.some_ (by omega)
  have hbC : bc ≠ C := fun e => hav bc rfl (by rw [e]; simp)
  have HB4 : Hid (c4.bank.getD 3 0 = 100) := (show _ = _ by rw [HE4.out]; rfl)
  have HSL := Lib.hid slc
  clear hml hln hav slc hcl4
  go_wp2_with (first
    | (refine wpl_store_fld (by rfl) _ _ _ rfl C 0 _ _ (coC vt4 (.slice (some ⟨bc, oc, none⟩) 1 cc) c4) rfl _ rfl rfl b4 (by rw [L3.out, L4.out]; exact Nat.le_refl _) I4.out (coC_one o4t o4c) ?_
       intro w9 d4 u4
       rw [put_all _ _ (by rw [L3.out, L4.out])] at d4
       have k42 : w9.cell? ⟨C, 42, none⟩ = some (.slice (some ⟨bc, oc, none⟩) 1 cc) := by rw [d4.cell]; exact co_claims HP4.out.1 HP4.out.2
       have k37 : w9.cell? ⟨C, 37, none⟩ = some (.int .i64 100) := by rw [d4.cell, ← HB4.out]; exact co_bank HP4.out.1 HP4.out.2 3 (by decide)
       have k3 : w9.cell? ⟨bc, oc + 3, none⟩ = some (.int .i64 2) := (HSL.out.but u4 (by intro e; injection e with e; exact hbC e)).cell rfl))
  go_ret
  exact ⟨rfl, f4.trans (below_but u4 hwC f4.size)⟩
end Go.Proofs.Ytdopgooglicaiaa
/- The walk of capstanlaw17.CourtSilent. -/
set_option linter.unusedSimpArgs false
set_option linter.unusedVariables false
namespace Go.Proofs.Ytdopgooglicaiaa
open Go.RowKit
set_option maxRecDepth 100000
set_option maxRecDepth 100000 in
set_option maxHeartbeats 8000000 in
theorem courtSilent_walk (w : World) (bo : Bool) (n : Int) (n_lo : -9223372036854775808 ≤ n) (n_hi : n < 9223372036854775808) :
    Calls Try.prog 3 #[.bool bo, .int .i64 n] w (RB true w) := by
  obtain ⟨m, hm⟩ : ∃ m : Int, n % 4 = m := ⟨_, rfl⟩
  have hm4 : 0 ≤ m ∧ m < 4 := by omega
  obtain ⟨N, hNN⟩ : ∃ N : Nat, 1 + m = (N : Int) := ⟨(1 + m).toNat, by omega⟩
  have hN : 1 ≤ N ∧ N ≤ 4 := by omega
  have HM := Lib.hid hm
  have HNN := Lib.hid hNN
  clear hm hNN
  go_enter Try.func3, Try.ntmps3
  go_wp2_with fail
  refine (courtKnown_any w).mono ?_
  rintro e w1 ⟨rfl, ff⟩
  go_wp2_with fail
  refine (within_capstanlaw17 n 4 w1 (by omega) (by omega) n_lo n_hi).mono ?_
  rintro e w1' ⟨rfl, rfl⟩
  rw [HM.out]
  go_wp2_with fail
  simp only [HNN.out]
  obtain ⟨cH, hcH⟩ : ∃ c, hallC 300 (hashL 5) = c := ⟨_, rfl⟩
  have EH := Lib.hid hcH
  have KH : Hid cH.ok := (show cH.ok from by rw [← hcH]; exact hallC_ok 300 (hashL 5) (hashL_all 5) (by rw [hashL_len]; decide))
  clear hcH
  refine (hall_any 300 5 (by omega) (by omega) (by omega) w1).mono ?_
  rintro e wy0 ⟨v0, rfl, hs, hb⟩
  rw [EH.out] at hs
  obtain ⟨vt0, vc0, rfl, ht, hc⟩ := hs [] (fun _ h => by cases h)
  have o0t := ht.one
  have o0c := hc.one
  have I0 := Lib.hid (info_co (vt := vt0) (vc := vc0) (c := cH) KH.out.pre KH.out.bank)
  have L0 : Hid ((coC vt0 vc0 cH).length = 43) := Lib.hid (coC_len (c := cH) KH.out.pre KH.out.bank)
  have x0 : CoX [] wy0 (.agg (coC vt0 vc0 cH).toArray) cH := ⟨vt0, vc0, rfl, ht, hc⟩
  replace ff := ff.trans (hb.mono ff.size)
  clear hs ht hc hb
  obtain ⟨C, hC⟩ : ∃ C, wy0.heap.size = C := ⟨_, rfl⟩
  have hwC : w.heap.size ≤ C := by rw [← hC]; exact ff.size
  have HC1 := Lib.hid hC
  clear hC
  go_wp2_with (first
    | (refine wpl_store_new rfl _ _ _ rfl 30 _ (coC vt0 vc0 cH) rfl rfl (by rw [L0.out]; rfl) I0.out (coC_one o0t o0c) ?_
       intro wz0 dC hz
       simp only [Act.put, List.setIfInBounds_toArray, List.set_cons_zero, List.set_cons_succ]
       replace ff := ff.trans (hz.mono ff.size)
       have yC := x0.to hz
       clear hz x0
       rw [HC1.out] at dC ⊢)
    | (refine wpl_load_fld (by rfl) _ _ rfl C 0 rfl (coC vt0 vc0 cH) _ dC.range Try.underlying30 rfl I0.out ?_)
    | (refine wpl_build (by rfl) _ _ rfl _ (by exact builtC9) ?_))
  refine (sayC_any _ cH KH.out 0 4 (one_ 9) rfl wz0 (by rw [← EH.out]; show (0 : Nat) < 20; decide) yC (slC 0 0, 0) (.inr (.inr ⟨⟨by decide, by decide⟩, by decide, by rw [← EH.out]; show (4 : Int) ≤ ((hashL 5).length : Int); rw [hashL_len]; decide, by rw [← EH.out]; decide, by rw [← EH.out]; decide, by rw [← EH.out]; exact congrArg (fun c => (c, (0 : Int))) sl_say.symm⟩))).mono ?_
  rintro en wy1 ⟨v1, rfl, hs, hb⟩
  obtain ⟨vt1, vc1, rfl, ht, hc⟩ := hs [C] (fun b hb => by rw [List.mem_singleton.1 hb]; exact dC.lt)
  have o1t := ht.one
  have o1c := hc.one
  have I1 := Lib.hid (info_co (vt := vt1) (vc := vc1) (c := (slC 0 0)) (slC_ok 0 0 (by omega)).pre (slC_ok 0 0 (by omega)).bank)
  have L1 : Hid ((coC vt1 vc1 (slC 0 0)).length = 43) := Lib.hid (coC_len (c := (slC 0 0)) (slC_ok 0 0 (by omega)).pre (slC_ok 0 0 (by omega)).bank)
  have x1 : CoX [C] wy1 (.agg (coC vt1 vc1 (slC 0 0)).toArray) (slC 0 0) := ⟨vt1, vc1, rfl, ht, hc⟩
  clear hs ht hc
  replace dC := dC.to hb
  replace yC := yC.to hb
  replace ff := ff.trans (hb.mono ff.size)
  clear hb
  go_wp2_with (first
    | (refine wpl_store_fld (by rfl) _ _ _ rfl C 0 _ _ (coC vt1 vc1 (slC 0 0)) rfl _ rfl rfl dC (by rw [L0.out, L1.out]; exact Nat.le_refl _) I1.out (coC_one o1t o1c) ?_
       intro w3 dd uu
       rw [put_all _ _ (by rw [L0.out, L1.out])] at dd
       replace ff := ff.trans (below_but uu hwC ff.size)
       have yy := cell_next x1 uu
       clear dC yC uu x1
       have dC := dd
       have yC := yy
       clear dd yy))
  go_loopw [6] (fun k wr => ∃ (j : Nat) (vt vc : Value), k = .int .i64 ((j : Int) + 1) ∧ j ≤ N ∧ Blk wr C 30 (coC vt vc (slC j 0)) ∧ CoX [] wr (.agg (coC vt vc (slC j 0)).toArray) (slC j 0) ∧ Hid (vt.oneCell' = true ∧ vc.oneCell' = true) ∧ Below w.heap.size w wr) (fun k _ => N + 1 - (intOf k).toNat)
  case atStart => exact ⟨0, vt1, vc1, rfl, Nat.zero_le _, dC, yC, (show _ ∧ _ from ⟨o1t, o1c⟩), ff⟩
  case round =>
    clear dC yC ff
    obtain ⟨j, vt, vc, rfl, hj, dC, yC, HV, ff⟩ := hrel
    have Ij := Lib.hid (info_co (vt := vt) (vc := vc) (c := (slC j 0)) (slC_ok j 0 (by omega)).pre (slC_ok j 0 (by omega)).bank)
    have Lj : Hid ((coC vt vc (slC j 0)).length = 43) := Lib.hid (coC_len (c := (slC j 0)) (slC_ok j 0 (by omega)).pre (slC_ok j 0 (by omega)).bank)
    by_cases hlt : j < N
    · have t1 : (j : Int) + 1 ≤ (N : Int) := by omega
      have t1d : decide ((j : Int) + 1 ≤ (N : Int)) = true := decide_eq_true t1
      go_wp2_with (first
        | (refine wpl_load_fld (by rfl) _ _ rfl C 0 rfl (coC vt vc (slC j 0)) _ dC.range Try.underlying30 rfl Ij.out ?_))
      refine (sueC_any _ (slC j 0) (slC_ok j 0 (by omega)) (slX j 0) rfl ⟨by show (1 : Int) ≤ 4; decide, by show (4 : Int) ≤ ((hashL 5).length : Int); rw [hashL_len]; decide, by show (hashL 5).length ≤ 2048; rw [hashL_len]; decide⟩ ⟨by show (0 : Int) ≤ 0; decide, by show (0 : Int) ≤ 1000; decide⟩ ⟨by show (0 : Int) ≤ 0; decide, by show (0 : Int) ≤ 1000; decide⟩ (slK_bk j).2 (by have := (slL_f j (by omega) 0).2.1; show (slL j 0).length < 4096; unfold slL; rw [List.length_map, List.length_range]; omega) ((j : Int) + 1) 0 wr yC).mono ?_
      rw [show sueR (slC j 0) (slX j 0) ((j : Int) + 1) 0 = (slC (j + 1) 0, 0) from by have := sl_sue j (by omega); rwa [show ((j + 1 : Nat) : Int) = (j : Int) + 1 from rfl] at this]
      rintro en wy2 ⟨v2, rfl, hs, hb⟩
      obtain ⟨vt2, vc2, rfl, ht, hc⟩ := hs [C] (fun b hb => by rw [List.mem_singleton.1 hb]; exact dC.lt)
      have o2t := ht.one
      have o2c := hc.one
      have I2 := Lib.hid (info_co (vt := vt2) (vc := vc2) (c := (slC (j + 1) 0)) (slC_ok (j + 1) 0 (by omega)).pre (slC_ok (j + 1) 0 (by omega)).bank)
      have L2 : Hid ((coC vt2 vc2 (slC (j + 1) 0)).length = 43) := Lib.hid (coC_len (c := (slC (j + 1) 0)) (slC_ok (j + 1) 0 (by omega)).pre (slC_ok (j + 1) 0 (by omega)).bank)
      have x2 : CoX [C] wy2 (.agg (coC vt2 vc2 (slC (j + 1) 0)).toArray) (slC (j + 1) 0) := ⟨vt2, vc2, rfl, ht, hc⟩
      clear hs ht hc
      replace dC := dC.to hb
      replace yC := yC.to hb
      replace ff := ff.trans (hb.mono ff.size)
      clear hb
      go_wp2_with (first
        | (refine wpl_store_fld (by rfl) _ _ _ rfl C 0 _ _ (coC vt2 vc2 (slC (j + 1) 0)) rfl _ rfl rfl dC (by rw [Lj.out, L2.out]; exact Nat.le_refl _) I2.out (coC_one o2t o2c) ?_
           intro w9 dd uu
           rw [put_all _ _ (by rw [Lj.out, L2.out])] at dd
           replace ff := ff.trans (below_but uu hwC ff.size)
           have yy := cell_next x2 uu
           clear dC yC uu x2
           have dC := dd
           have yC := yy
           clear dd yy))
      go_roundw
      case rel => exact ⟨j + 1, vt2, vc2, by go_num, by omega, dC, yC, (show _ ∧ _ from ⟨o2t, o2c⟩), ff⟩
      case measure => simp [intOf]; omega
    · obtain rfl : N = j := by omega
      have t1 : ¬ (N : Int) + 1 ≤ (N : Int) := by omega
      have t1d : decide ((N : Int) + 1 ≤ (N : Int)) = false := decide_eq_false t1
      cases bo with
      | true =>
        go_wp2_with (first
          | (refine wpl_load_fld (by rfl) _ _ rfl C 0 rfl (coC vt vc (slC N 0)) _ dC.range Try.underlying30 rfl Ij.out ?_))
        refine (nextM_any _ (slC N 0) (slC_ok N 0 (by omega)) (slX N 0) rfl (by intro h; have := congrArg List.length h; rw [show (slX N 0).suits.length = N from by show (slL N 0).length = _; unfold slL; rw [List.length_map, List.length_range]] at this; simp at this; omega) (slL_f N (by omega) 0).2.2.1 4 (by decide) ⟨by show (0 : Int) ≤ 0; decide, by show (0 : Int) ≤ 1000; decide⟩ ⟨by show (0 : Int) ≤ 0; decide, by show (0 : Int) ≤ 1000; decide⟩ ⟨by show (0 : Int) ≤ 0; decide, by show (0 : Int) < 8; decide⟩ (slL_f N (by omega) 0).2.2.2 (slK_bk N) wr yC).mono ?_
        rw [show nextM (slC N 0) (slX N 0) 4 = slD N from sl_dead N (by omega) (by omega)]
        rintro en wy2 ⟨v2, rfl, hs, hb⟩
        obtain ⟨vt2, vc2, rfl, ht, hc⟩ := hs [C] (fun b hb => by rw [List.mem_singleton.1 hb]; exact dC.lt)
        have o2t := ht.one
        have o2c := hc.one
        have I2 := Lib.hid (info_co (vt := vt2) (vc := vc2) (c := (slD N)) (slD_ok N (by omega)).pre (slD_ok N (by omega)).bank)
        have L2 : Hid ((coC vt2 vc2 (slD N)).length = 43) := Lib.hid (coC_len (c := (slD N)) (slD_ok N (by omega)).pre (slD_ok N (by omega)).bank)
        have x2 : CoX [C] wy2 (.agg (coC vt2 vc2 (slD N)).toArray) (slD N) := ⟨vt2, vc2, rfl, ht, hc⟩
        clear hs ht hc
        replace dC := dC.to hb
        replace yC := yC.to hb
        replace ff := ff.trans (hb.mono ff.size)
        clear hb
        go_upto_region 12 with (first
          | (refine wpl_store_fld (by rfl) _ _ _ rfl C 0 _ _ (coC vt2 vc2 (slD N)) rfl _ rfl rfl dC (by rw [Lj.out, L2.out]; exact Nat.le_refl _) I2.out (coC_one o2t o2c) ?_
             intro w9 dd uu
             rw [put_all _ _ (by rw [Lj.out, L2.out])] at dd
             replace ff := ff.trans (below_but uu hwC ff.size)
             have yy := cell_next x2 uu
             clear dC yC uu x2
             have dC := dd
             have yC := yy
             clear dd yy))
        obtain ⟨bc, oc, cc, vs, rfl, slc, sux⟩ := yC.one_ (slD_ok N (by omega)).pre (slD_ok N (by omega)).bank rfl
        have k42 : w9.cell? ⟨C, 42, none⟩ = some (.slice (some ⟨bc, oc, none⟩) 1 cc) := by rw [dC.cell]; exact co_claims (slD_ok N (by omega)).pre (slD_ok N (by omega)).bank
        have k3 : w9.cell? ⟨bc, oc + 3, none⟩ = some (.int .i64 3) := slc.cell (cl_st (x := slDX N))
        have k34 : w9.cell? ⟨C, 34, none⟩ = some (.int .i64 200) := by rw [dC.cell, show (Value.int .i64 200) = .int .i64 ((slDK N).getD 0 0) from by rw [slDK_at N 0 (by decide)]; rfl]; exact co_bank (c := slD N) (slD_ok N (by omega)).pre (slD_ok N (by omega)).bank 0 (by decide)
        have k35 : w9.cell? ⟨C, 35, none⟩ = some (.int .i64 400) := by rw [dC.cell, show (Value.int .i64 400) = .int .i64 ((slDK N).getD 1 0) from by rw [slDK_at N 1 (by decide)]; rfl]; exact co_bank (c := slD N) (slD_ok N (by omega)).pre (slD_ok N (by omega)).bank 1 (by decide)
        clear sux
        go_upto_region 15 with fail
        go_loopw [7] (fun k wr => ∃ i : Nat, k = .int .i64 (i : Int) ∧ 2 ≤ i ∧ i ≤ N + 1 ∧ wr = w9) (fun k _ => N + 1 - (intOf k).toNat)
        case atStart => exact ⟨2, rfl, by decide, by omega, rfl⟩
        case round =>
          obtain ⟨i, rfl, hi2, hij, rfl⟩ := hrel
          by_cases hli : i ≤ N
          · have t2 : (i : Int) ≤ (N : Int) := by omega
            have ki : wr.cell? ⟨C, 34 + i, none⟩ = some (.int .i64 300) := by rw [dC.cell, show (Value.int .i64 300) = .int .i64 ((slDK N).getD i 0) from by rw [slDK_at N i (by omega), if_neg (by omega), if_neg (by omega)]]; exact co_bank (c := slD N) (slD_ok N (by omega)).pre (slD_ok N (by omega)).bank i (by omega)
            have hi8 : (i : Int) < 8 := by omega
            go_wp2_with fail
            go_roundw
            case rel => exact ⟨i + 1, by go_num, by omega, by omega, (by first | trivial | rfl)⟩
            case measure => simp [intOf]; omega
          · have t2 : ¬ (i : Int) ≤ (N : Int) := by omega
            go_wp2_with (first
              | (refine wpl_load_fld (by rfl) _ _ rfl C 0 rfl (coC vt2 (.slice (some ⟨bc, oc, none⟩) 1 cc) (slD N)) _ dC.range Try.underlying30 rfl I2.out ?_)
              | (refine wpl_build (by rfl) _ _ rfl _ (by exact builtC7) ?_))
            refine (middle_err _ (slD N) (slD_ok N (by omega)) 0 0 1 (one_ 7) rfl 18 (sl_done N (by omega) (by omega)) (by decide) wr yC).mono ?_
            rintro en wy3 ⟨v3, rfl, hs, hb⟩
            obtain ⟨vt3, vc3, rfl, ht, hc⟩ := hs [] (fun _ h => by cases h)
            have o3t := ht.one
            have o3c := hc.one
            have I3 := Lib.hid (info_co (vt := vt3) (vc := vc3) (c := (slD N)) (slD_ok N (by omega)).pre (slD_ok N (by omega)).bank)
            have L3 : Hid ((coC vt3 vc3 (slD N)).length = 43) := Lib.hid (coC_len (c := (slD N)) (slD_ok N (by omega)).pre (slD_ok N (by omega)).bank)
            have x3 : CoX [] wy3 (.agg (coC vt3 vc3 (slD N)).toArray) (slD N) := ⟨vt3, vc3, rfl, ht, hc⟩
            clear hs ht hc
            replace dC := dC.to hb
            replace yC := yC.to hb
            replace ff := ff.trans (hb.mono ff.size)
            clear hb
            go_wp2_with (first
              | (refine wpl_store_new rfl _ _ _ rfl 30 _ (coC vt3 vc3 (slD N)) rfl rfl (by rw [L3.out]; rfl) I3.out (coC_one o3t o3c) ?_
                 intro wz3 dQ hz
                 simp only [Act.put, List.setIfInBounds_toArray, List.set_cons_zero, List.set_cons_succ]
                 replace dC := dC.to hz
                 replace yC := yC.to hz
                 replace ff := ff.trans (hz.mono ff.size)
                 have yQ := x3.to hz
                 clear hz x3
                 clear dQ yQ))
            go_ret
            exact ⟨rfl, ff⟩
      | false =>
        clear t1 t1d hj hlt
        go_upto_region 22 with fail
        go_loopw [10] (fun k wr => ∃ (j : Nat) (vt vc : Value), k = .int .i64 ((j : Int) + 1) ∧ j ≤ N ∧ Blk wr C 30 (coC vt vc (slC N j)) ∧ CoX [] wr (.agg (coC vt vc (slC N j)).toArray) (slC N j) ∧ Hid (vt.oneCell' = true ∧ vc.oneCell' = true) ∧ Below w.heap.size w wr) (fun k _ => N + 1 - (intOf k).toNat)
        case atStart => exact ⟨0, vt, vc, rfl, Nat.zero_le _, dC, yC, HV, ff⟩
        case round =>
          clear dC yC ff
          obtain ⟨j, vt, vc, rfl, hj, dC, yC, HV, ff⟩ := hrel
          have Ij := Lib.hid (info_co (vt := vt) (vc := vc) (c := (slC N j)) (slC_ok N j (by omega)).pre (slC_ok N j (by omega)).bank)
          have Lj : Hid ((coC vt vc (slC N j)).length = 43) := Lib.hid (coC_len (c := (slC N j)) (slC_ok N j (by omega)).pre (slC_ok N j (by omega)).bank)
          by_cases hlt : j < N
          · have t1 : (j : Int) + 1 ≤ (N : Int) := by omega
            have t1d : decide ((j : Int) + 1 ≤ (N : Int)) = true := decide_eq_true t1
            go_wp2_with (first
              | (refine wpl_load_fld (by rfl) _ _ rfl C 0 rfl (coC vt vc (slC N j)) _ dC.range Try.underlying30 rfl Ij.out ?_)
              | (refine wpl_build (by rfl) _ _ rfl _ (by exact builtC7) ?_))
            refine (middle_ok _ (slC N j) (slC_ok N j (by omega)) 0 ((j : Int) + 1) (one_ 7) rfl (slX N j) rfl j (slS j mvG) (by rw [sl_suit0 N j j hlt, if_neg (by omega)]) (slL_f N (by omega) j).2.2.1 ⟨by show (0 : Int) ≤ 0; decide, by show (0 : Int) < 8; decide⟩ (slL_f N (by omega) j).2.2.2 ((slK_bk N).up (by decide)) (by show 0 ≤ mvG.moves; decide) (by show mvG.moves ≤ 1099511627776; decide) (by have := sl_claim N j (by omega) hlt; rwa [show ((j + 1 : Nat) : Int) = (j : Int) + 1 from rfl] at this) wr yC).mono ?_
            rw [show movedR (slC N j) (slX N j) j (slS j mvG) (sayD (slS j mvG).g (one_ 7) (slC N j).now) = (slC N (j + 1), 0) from sl_mid N j (by omega) hlt]
            rintro en wy2 ⟨v2, rfl, hs, hb⟩
            obtain ⟨vt2, vc2, rfl, ht, hc⟩ := hs [C] (fun b hb => by rw [List.mem_singleton.1 hb]; exact dC.lt)
            have o2t := ht.one
            have o2c := hc.one
            have I2 := Lib.hid (info_co (vt := vt2) (vc := vc2) (c := (slC N (j + 1))) (slC_ok N (j + 1) (by omega)).pre (slC_ok N (j + 1) (by omega)).bank)
            have L2 : Hid ((coC vt2 vc2 (slC N (j + 1))).length = 43) := Lib.hid (coC_len (c := (slC N (j + 1))) (slC_ok N (j + 1) (by omega)).pre (slC_ok N (j + 1) (by omega)).bank)
            have x2 : CoX [C] wy2 (.agg (coC vt2 vc2 (slC N (j + 1))).toArray) (slC N (j + 1)) := ⟨vt2, vc2, rfl, ht, hc⟩
            clear hs ht hc
            replace dC := dC.to hb
            replace yC := yC.to hb
            replace ff := ff.trans (hb.mono ff.size)
            clear hb
            go_wp2_with (first
              | (refine wpl_store_fld (by rfl) _ _ _ rfl C 0 _ _ (coC vt2 vc2 (slC N (j + 1))) rfl _ rfl rfl dC (by rw [Lj.out, L2.out]; exact Nat.le_refl _) I2.out (coC_one o2t o2c) ?_
                 intro w9 dd uu
                 rw [put_all _ _ (by rw [Lj.out, L2.out])] at dd
                 replace ff := ff.trans (below_but uu hwC ff.size)
                 have yy := cell_next x2 uu
                 clear dC yC uu x2
                 have dC := dd
                 have yC := yy
                 clear dd yy))
            go_roundw
            case rel => exact ⟨j + 1, vt2, vc2, by go_num, by omega, dC, yC, (show _ ∧ _ from ⟨o2t, o2c⟩), ff⟩
            case measure => simp [intOf]; omega
          · obtain rfl : N = j := by omega
            have t1 : ¬ (N : Int) + 1 ≤ (N : Int) := by omega
            have t1d : decide ((N : Int) + 1 ≤ (N : Int)) = false := decide_eq_false t1
            go_wp2_with (first
              | (refine wpl_load_fld (by rfl) _ _ rfl C 0 rfl (coC vt vc (slC N N)) _ dC.range Try.underlying30 rfl Ij.out ?_))
            refine (nextM_any _ (slC N N) (slC_ok N N (by omega)) (slX N N) rfl (by intro h; have := congrArg List.length h; rw [show (slX N N).suits.length = N from by show (slL N N).length = _; unfold slL; rw [List.length_map, List.length_range]] at this; simp at this; omega) (slL_f N (by omega) N).2.2.1 4 (by decide) ⟨by show (0 : Int) ≤ 0; decide, by show (0 : Int) ≤ 1000; decide⟩ ⟨by show (0 : Int) ≤ 0; decide, by show (0 : Int) ≤ 1000; decide⟩ ⟨by show (0 : Int) ≤ 0; decide, by show (0 : Int) < 8; decide⟩ (slL_f N (by omega) N).2.2.2 (slK_bk N) wr yC).mono ?_
            rw [show nextM (slC N N) (slX N N) 4 = slF N from sl_final N (by omega) (by omega)]
            rintro en wy2 ⟨v2, rfl, hs, hb⟩
            obtain ⟨vt2, vc2, rfl, ht, hc⟩ := hs [C] (fun b hb => by rw [List.mem_singleton.1 hb]; exact dC.lt)
            have o2t := ht.one
            have o2c := hc.one
            have I2 := Lib.hid (info_co (vt := vt2) (vc := vc2) (c := (slF N)) (slF_ok N (by omega)).pre (slF_ok N (by omega)).bank)
            have L2 : Hid ((coC vt2 vc2 (slF N)).length = 43) := Lib.hid (coC_len (c := (slF N)) (slF_ok N (by omega)).pre (slF_ok N (by omega)).bank)
            have x2 : CoX [C] wy2 (.agg (coC vt2 vc2 (slF N)).toArray) (slF N) := ⟨vt2, vc2, rfl, ht, hc⟩
            clear hs ht hc
            replace dC := dC.to hb
            replace yC := yC.to hb
            replace ff := ff.trans (hb.mono ff.size)
            clear hb
            go_upto_region 27 with (first
              | (refine wpl_store_fld (by rfl) _ _ _ rfl C 0 _ _ (coC vt2 vc2 (slF N)) rfl _ rfl rfl dC (by rw [Lj.out, L2.out]; exact Nat.le_refl _) I2.out (coC_one o2t o2c) ?_
                 intro w9 dd uu
                 rw [put_all _ _ (by rw [Lj.out, L2.out])] at dd
                 replace ff := ff.trans (below_but uu hwC ff.size)
                 have yy := cell_next x2 uu
                 clear dC yC uu x2
                 have dC := dd
                 have yC := yy
                 clear dd yy))
            obtain ⟨bc, oc, cc, vs, rfl, slc, sux⟩ := yC.one_ (slF_ok N (by omega)).pre (slF_ok N (by omega)).bank rfl
            have k42 : w9.cell? ⟨C, 42, none⟩ = some (.slice (some ⟨bc, oc, none⟩) 1 cc) := by rw [dC.cell]; exact co_claims (slF_ok N (by omega)).pre (slF_ok N (by omega)).bank
            have k3 : w9.cell? ⟨bc, oc + 3, none⟩ = some (.int .i64 2) := slc.cell (cl_st (x := slFX N))
            have k34 : w9.cell? ⟨C, 34, none⟩ = some (.int .i64 (300 + 100 * (N : Int))) := by rw [dC.cell, show (Value.int .i64 (300 + 100 * (N : Int))) = .int .i64 ((slFK N).getD 0 0) from by rw [slFK_at N 0 (by decide), if_pos rfl]]; exact co_bank (c := slF N) (slF_ok N (by omega)).pre (slF_ok N (by omega)).bank 0 (by decide)
            obtain ⟨As, ns, css, ls, rfl, sls, hls, hlns, _, _, _⟩ := sux
            have hns : ns = N := by
              rw [← hlns, ← List.length_map (f := (·.2)), hls]
              show ((List.range N).map _).length = N
              rw [List.length_map, List.length_range]
            subst hns
            obtain ⟨b1, o1, rfl, hb1⟩ := sls.some_ (by omega)
            have k36 : w9.cell? ⟨bc, oc + 36, none⟩ = some (.slice (some ⟨b1, o1, none⟩) ns css) := slc.cell (cl_suits (x := slFX ns) rfl)
            have HLS := Lib.hid hls
            have hr1 : Hid (∀ a ∈ ls, (suF a).length = 106) := (show ∀ a ∈ ls, (suF a).length = 106 from fun a ha => suF_len (((slF_ok ns (by omega)).claims (slFX ns) (by show _ ∈ [_]; simp)).suits a.2 (mem_snd hls ha)).g)
            clear hls hlns
            go_loopw [11] (fun k wr => ∃ i : Nat, k = .int .i64 ((i : Int) + 1) ∧ i ≤ ns ∧ wr = w9) (fun k _ => ns + 1 - (intOf k).toNat)
            case atStart => exact ⟨0, rfl, Nat.zero_le _, rfl⟩
            case round =>
              obtain ⟨i, rfl, hij, rfl⟩ := hrel
              by_cases hli : i < ns
              · have t2 : (i : Int) + 1 ≤ (ns : Int) := by omega
                have t3 : (i : Int) < (ns : Int) := by omega
                obtain ⟨u, hu⟩ := snd_get HLS.out (sl_suit ns i hli)
                have hg : GLen (overD mvG2 true) := ⟨rfl, rfl, rfl⟩
                have c1 := rows_get ls hr1.out [] hu (j := 100) (by decide)
                have c2 := rows_get ls hr1.out [] hu (j := 103) (by decide)
                rw [List.append_nil] at c1 c2
                have kt : wr.cell? ⟨b1, o1 + i * 106 + 1 + 99, none⟩ = some (.int .i64 4) := by
                  rw [show o1 + i * 106 + 1 + 99 = o1 + (i * 106 + 100) from by omega]
                  refine sls.cell ?_
                  rw [c1]
                  exact su_turn (u := u) (s := slS i (overD mvG2 true)) hg
                have kw : wr.cell? ⟨b1, o1 + i * 106 + 1 + 102, none⟩ = some (.bool true) := by
                  rw [show o1 + i * 106 + 1 + 102 = o1 + (i * 106 + 103) from by omega]
                  refine sls.cell ?_
                  rw [c2]
                  exact su_won (u := u) (s := slS i (overD mvG2 true)) hg
                have kt2 : wr.cell? ⟨b1, o1 + i * 106 + 100, none⟩ = some (.int .i64 4) := kt
                have kw2 : wr.cell? ⟨b1, o1 + i * 106 + 103, none⟩ = some (.bool true) := kw
                have ki : wr.cell? ⟨C, 34 + (i + 1), none⟩ = some (.int .i64 200) := by rw [dC.cell, show (Value.int .i64 200) = .int .i64 ((slFK ns).getD (i + 1) 0) from by rw [slFK_at ns (i + 1) (by omega), if_neg (by omega), if_pos (by omega)]]; exact co_bank (c := slF ns) (slF_ok ns (by omega)).pre (slF_ok ns (by omega)).bank (i + 1) (by omega)
                have hi8 : (i : Int) + 1 < 8 := by omega
                clear hu c1 c2 hg
                go_wp2_with fail
                go_roundw
                case rel => exact ⟨i + 1, by go_num, by omega, (by first | trivial | rfl)⟩
                case measure => simp [intOf]; omega
              · obtain rfl : i = ns := by omega
                have t2 : ¬ (i : Int) + 1 ≤ (i : Int) := by omega
                have hq : (300 : Int) + 100 * (i : Int) = 300 + 100 * (i : Int) := rfl
                clear hq
                go_upto_region 31 with fail
                repeat (first | go_values | go_skip | go_guarded | go_step | go_upon | go_back)
                go_ret
                exact ⟨rfl, ff⟩
end Go.Proofs.Ytdopgooglicaiaa
