/- The texts of this claim, part K: words, plain laws, walks. -/
import Derived.Test.YtdopgooglicaiaaPartH
import Derived.Test.YtdopgooglicaiaaPartJ
import Derived.Test.YtdopgooglicaiaaPartC
import Derived.Test.YtdopgooglicaiaaPartE
/- Walks: court.open, claimant. -/
set_option linter.unusedSimpArgs false
set_option linter.unusedVariables false
namespace Go.Proofs.Ytdopgooglicaiaa
open Go.RowKit
set_option maxRecDepth 100000
/-- an open suit of a claim; what is wrong else -/
def openE (c : CO) (i k : Int) : Int × Int := if findC c i k < 0 then (0, 2) else if (c.claims.getD k.toNat ⟨0, 0, 0, 0, [], []⟩).st ≠ 1 then (0, 18) else (findC c i k, 0)
set_option maxRecDepth 100000 in
set_option maxHeartbeats 4000000 in
theorem openC_any (v : Value) (c : CO) (hc : c.ok) (i k : Int) (w : World) (h : CoX [] w v c) : Calls Try.prog 44 #[v, .int .i64 i, .int .i64 k] w fun e w' => e = .returned (.tuple #[.int .i64 (openE c i k).1, .int .i64 (openE c i k).2]) ∧ Below w.heap.size w w' := by
  have hX := h
  obtain ⟨vt, vc, rfl, ht, ⟨Ac, n, cc, l, rfl, slc, hml, hln, _, _, hsu⟩⟩ := h
  obtain ⟨W, HW, hbw, bp⟩ : ∃ W, Hid (W = w.alloc (.cells (coC vt (.slice Ac n cc) c).toArray 30)) ∧ Below w.heap.size w W ∧ Blk W w.heap.size 30 (coC vt (.slice Ac n cc) c) :=
    ⟨_, rfl, (Below.refl _ _).alloc (Nat.le_refl _) _, Blk.new w (coC vt (.slice Ac n cc) c).toArray 30⟩
  have hN : c.claims.length = n := by rw [← hml, List.length_map]; exact hln
  have HC := Lib.hid hc
  have HML := Lib.hid hml
  have HN := Lib.hid hN
  have IC := Lib.hid (info_co (vt := vt) (vc := .slice Ac n cc) hc.pre hc.bank)
  have hXW := hX.to hbw
  clear hc hml hln hN hsu hX
  obtain ⟨f, hf⟩ : ∃ f, findC c i k = f := ⟨_, rfl⟩
  have HF := Lib.hid hf
  go_enter Try.func44, Try.ntmps44
  go_upto_region 1 with fail
  refine wp_at HW.out ?_
  clear HW hf
  go_wp2_with (first
    | (refine wpl_load_fld (by rfl) _ _ rfl w.heap.size 0 rfl (coC vt (.slice Ac n cc) c) _ bp.range Try.underlying30 rfl IC.out ?_))
  refine (findC_any _ c HC.out i k W hXW).mono ?_
  rintro e w1 ⟨rfl, hb1⟩
  rw [HF.out]
  have bp1 := bp.to hb1
  have f1 := hbw.trans (hb1.mono hbw.size)
  by_cases hf0 : f < 0
  · have HO : Hid (openE c i k = (0, 2)) := (show _ = _ by unfold openE; rw [HF.out, if_pos hf0])
    go_wp2_with fail
    go_ret2
    exact ⟨by rw [HO.out]; rfl, f1⟩
  · have hk : 0 ≤ k ∧ k < (n : Int) := by
      by_cases hk : 0 ≤ k ∧ k < (n : Int)
      · exact hk
      · have := HF.out
        unfold findC at this
        rw [HN.out, if_neg hk] at this
        omega
    obtain ⟨q, rfl⟩ : ∃ q : Nat, k = (q : Int) := ⟨k.toNat, by omega⟩
    have hq : q < n := by omega
    obtain ⟨x, hx⟩ : ∃ x, c.claims[q]? = some x := ⟨_, List.getElem?_eq_getElem (by rw [HN.out]; exact hq)⟩
    obtain ⟨u, hu⟩ := snd_get HML.out hx
    have HG : Hid (c.claims.getD ((q : Int)).toNat ⟨0, 0, 0, 0, [], []⟩ = x) := (show _ = _ by rw [Int.toNat_natCast, List.getD_eq_getElem?_getD, hx]; rfl)
    have sl1 := slc.to f1
    obtain ⟨b1, o1, rfl, hb1'⟩ := sl1.some_ (by omega)
    have k42 : w1.cell? ⟨w.heap.size, 42, none⟩ = some (.slice (some ⟨b1, o1, none⟩) n cc) := by rw [bp1.cell]; exact co_claims HC.out.pre HC.out.bank
    have hr1 : ∀ a ∈ l, (clF a).length = 37 := fun a ha => clF_len (HC.out.claims a.2 (mem_snd HML.out ha)).root
    have ku : w1.cell? ⟨b1, o1 + q * 37 + 3, none⟩ = some (.int .i64 x.st) := by
      rw [Nat.add_assoc]
      refine sl1.cell ?_
      have := rows_get l hr1 [] hu (j := 3) (by decide)
      rw [List.append_nil] at this
      rw [this]
      exact cl_st
    clear hr1 hu hx
    by_cases hst : x.st = 1
    · have HO : Hid (openE c i (q : Int) = (f, 0)) := (show _ = _ by unfold openE; rw [HF.out, if_neg hf0, HG.out, if_neg (by simp [hst])])
      go_wp2_with fail
      go_ret2
      exact ⟨by rw [HO.out]; rfl, f1⟩
    · have HO : Hid (openE c i (q : Int) = (0, 18)) := (show _ = _ by unfold openE; rw [HF.out, if_neg hf0, HG.out, if_pos hst])
      have t2 : (x.st != 1) = true := by simpa using hst
      go_wp2_with fail
      go_ret2
      exact ⟨by rw [HO.out]; rfl, f1⟩
/-- the suit that a claimant is to move in; what is wrong else -/
def claimE (c : CO) (i k g : Int) : Int × Int :=
  if ¬ partyB i ∨ ¬ partyB g then (0, 1) else if ¬ (0 ≤ k ∧ k < (c.claims.length : Int)) then (0, 2) else if (c.claims.getD k.toNat ⟨0, 0, 0, 0, [], []⟩).by_ ≠ i then (0, 1) else openE c g k
set_option maxRecDepth 100000 in
set_option maxHeartbeats 4000000 in
theorem claimant_any (v : Value) (c : CO) (hc : c.ok) (i k g : Int) (w : World) (h : CoX [] w v c) : Calls Try.prog 35 #[v, .int .i64 i, .int .i64 k, .int .i64 g] w fun e w' => e = .returned (.tuple #[.int .i64 (claimE c i k g).1, .int .i64 (claimE c i k g).2]) ∧ Below w.heap.size w w' := by
  have hX := h
  obtain ⟨vt, vc, rfl, ht, ⟨Ac, n, cc, l, rfl, slc, hml, hln, _, _, hsu⟩⟩ := h
  obtain ⟨W, HW, hbw, bp⟩ : ∃ W, Hid (W = w.alloc (.cells (coC vt (.slice Ac n cc) c).toArray 30)) ∧ Below w.heap.size w W ∧ Blk W w.heap.size 30 (coC vt (.slice Ac n cc) c) :=
    ⟨_, rfl, (Below.refl _ _).alloc (Nat.le_refl _) _, Blk.new w (coC vt (.slice Ac n cc) c).toArray 30⟩
  have hN : c.claims.length = n := by rw [← hml, List.length_map]; exact hln
  have HC := Lib.hid hc
  have HML := Lib.hid hml
  have HN := Lib.hid hN
  have IC := Lib.hid (info_co (vt := vt) (vc := .slice Ac n cc) hc.pre hc.bank)
  have hXW := hX.to hbw
  have slW := slc.to hbw
  have k42 : W.cell? ⟨w.heap.size, 42, none⟩ = some (.slice Ac n cc) := by rw [bp.cell]; exact co_claims hc.pre hc.bank
  clear hc hml hln hN hsu hX slc
  go_enter Try.func35, Try.ntmps35
  go_upto_region 1 with fail
  refine wp_at HW.out ?_
  clear HW
  go_wp2_with fail
  by_cases hpi : partyB i
  · refine (party_yes i W hpi).mono ?_
    rintro e W' ⟨rfl, rfl⟩
    go_wp2_with fail
    by_cases hpg : partyB g
    · refine (party_yes g W hpg).mono ?_
      rintro e W' ⟨rfl, rfl⟩
      by_cases hk : 0 ≤ k ∧ k < (n : Int)
      · obtain ⟨q, rfl⟩ : ∃ q : Nat, k = (q : Int) := ⟨k.toNat, by omega⟩
        have hq : q < n := by omega
        have t1 : ¬ (n : Int) ≤ (q : Int) := by omega
        obtain ⟨x, hx⟩ : ∃ x, c.claims[q]? = some x := ⟨_, List.getElem?_eq_getElem (by rw [HN.out]; exact hq)⟩
        obtain ⟨u, hu⟩ := snd_get HML.out hx
        have HG : Hid (c.claims.getD ((q : Int)).toNat ⟨0, 0, 0, 0, [], []⟩ = x) := (show _ = _ by rw [Int.toNat_natCast, List.getD_eq_getElem?_getD, hx]; rfl)
        obtain ⟨b1, o1, rfl, hb1'⟩ := slW.some_ (by omega)
        have hr1 : ∀ a ∈ l, (clF a).length = 37 := fun a ha => clF_len (HC.out.claims a.2 (mem_snd HML.out ha)).root
        have ku : W.cell? ⟨b1, o1 + q * 37, none⟩ = some (.int .i64 x.by_) := by
          refine slW.cell ?_
          have := rows_get l hr1 [] hu (j := 0) (by decide)
          rw [List.append_nil, Nat.add_zero] at this
          rw [this]
          exact cl_by
        clear hr1 hu hx
        by_cases hby : x.by_ = i
        · have HO : Hid (claimE c i (q : Int) g = openE c g (q : Int)) := (show _ = _ by unfold claimE; rw [if_neg (by simp [hpi, hpg]), if_neg (by rw [HN.out]; simp; omega), HG.out, if_neg (by simp [hby])])
          have t2 : (x.by_ != i) = false := by simp [hby]
          clear hby
          go_wp2_with (first
            | (refine wpl_load_fld (by rfl) _ _ rfl w.heap.size 0 rfl (coC vt (.slice (some ⟨b1, o1, none⟩) n cc) c) _ bp.range Try.underlying30 rfl IC.out ?_))
          refine (openC_any _ c HC.out g (q : Int) W hXW).mono ?_
          rintro e w1 ⟨rfl, hb1⟩
          go_wp2_with fail
          go_ret2
          exact ⟨by rw [HO.out]; rfl, hbw.trans (hb1.mono hbw.size)⟩
        · have HO : Hid (claimE c i (q : Int) g = (0, 1)) := (show _ = _ by unfold claimE; rw [if_neg (by simp [hpi, hpg]), if_neg (by rw [HN.out]; simp; omega), HG.out, if_pos hby])
          have t2 : (x.by_ != i) = true := by simpa using hby
          go_wp2_with fail
          go_ret2
          exact ⟨by rw [HO.out]; rfl, hbw⟩
      · have HO : Hid (claimE c i k g = (0, 2)) := (show _ = _ by unfold claimE; rw [if_neg (by simp [hpi, hpg]), if_pos (by rw [HN.out]; exact hk)])
        by_cases h0 : k < 0
        · go_wp2_with fail
          go_ret2
          exact ⟨by rw [HO.out]; rfl, hbw⟩
        · have t1 : (n : Int) ≤ k := by omega
          go_wp2_with fail
          go_ret2
          exact ⟨by rw [HO.out]; rfl, hbw⟩
    · refine (party_no g W hpg).mono ?_
      rintro e W' ⟨rfl, rfl⟩
      have HO : Hid (claimE c i k g = (0, 1)) := (show _ = _ by unfold claimE; rw [if_pos (.inr hpg)])
      go_wp2_with fail
      go_ret2
      exact ⟨by rw [HO.out]; rfl, hbw⟩
  · refine (party_no i W hpi).mono ?_
    rintro e W' ⟨rfl, rfl⟩
    have HO : Hid (claimE c i k g = (0, 1)) := (show _ = _ by unfold claimE; rw [if_pos (.inl hpi)])
    go_wp2_with fail
    go_ret2
    exact ⟨by rw [HO.out]; rfl, hbw⟩
end Go.Proofs.Ytdopgooglicaiaa
/- The walks of court.Middle, court.Side, of a court of one claim. -/
set_option linter.unusedSimpArgs false
set_option linter.unusedVariables false
namespace Go.Proofs.Ytdopgooglicaiaa
open Go.RowKit
set_option maxRecDepth 100000
theorem refB_len (q : Nat) : ∀ (l : List SU) (j : Nat) (bk : List Int), (refB q l j bk).length = bk.length
  | [], _, _ => rfl
  | s :: l, j, bk => by
    rw [refB, refB_len q l]
    split
    · exact addB_len _ _ _
    · rfl
theorem settleC_ok {c : CO} {x : CL} (hc : c.ok) (hcl : c.claims = [x]) (q : Nat) (s : SU) : (settleC c x q s).ok ∧ (settleC c x q s).claims = [settleX x s] := by
  have hx : x.ok := hc.claims x (by rw [hcl]; simp)
  unfold settleC settleX
  split
  · exact ⟨⟨hc.pre, hc.txs, hc.n, by show (addB _ _ _).length = 8; rw [addB_len]; exact hc.bank, hc.claims, hc.m⟩, hcl⟩
  · exact ⟨⟨hc.pre, hc.txs, hc.n, by show (refB _ _ _ _).length = 8; rw [refB_len, addB_len]; exact hc.bank, fun y hy => by rw [List.mem_singleton.1 hy]; exact ⟨hx.root, hx.suits, hx.n⟩, by show [_].length ≤ 4096; simp⟩, rfl⟩
theorem layC_ok {c : CO} {x : CL} (hc : c.ok) (hcl : c.claims = [x]) (q : Nat) {s : SU} (hs : s.ok) : (layC c x q s).ok ∧ (layC c x q s).claims = [layX x q s] := by
  have hx : x.ok := hc.claims x (by rw [hcl]; simp)
  have h0 : CO.ok { c with claims := [layX0 x q s] } := ⟨hc.pre, hc.txs, hc.n, hc.bank, fun y hy => by
    rw [List.mem_singleton.1 hy]
    refine ⟨hx.root, fun z hz => ?_, by show (x.suits.set _ _).length ≤ _; rw [List.length_set]; exact hx.n⟩
    rcases List.mem_or_eq_of_mem_set hz with h1 | h1
    · exact hx.suits z h1
    · rw [h1]
      exact hs, by show [_].length ≤ 4096; simp⟩
  unfold layC layX
  split
  · exact settleC_ok h0 rfl q s
  · exact ⟨h0, rfl⟩
theorem movedR_ok {c : CO} {x : CL} (hc : c.ok) (hcl : c.claims = [x]) (q : Nat) {s : SU} (hs : s.ok) (r : GD × Int) (hr : GLen r.1) : (movedR c x q s r).1.ok := by
  unfold movedR
  split
  · exact (layC_ok hc hcl q (s := layS s r.1 s.hs) ⟨hr, hs.hs, hs.n⟩).1
  · exact hc
set_option maxRecDepth 100000 in
set_option maxHeartbeats 4000000 in
theorem middle_err (v : Value) (c : CO) (hc : c.ok) (i k g : Int) (mid : List UInt8) (hm : mid.length = 32) (E : Int) (hE : claimE c i k g = (0, E)) (hE0 : E ≠ 0) (w : World) (h : CoX [] w v c) : Calls Try.prog 15 #[v, .int .i64 i, .int .i64 k, .int .i64 g, hv mid] w (RCe w c E) := by
  try unfold hv
  obtain ⟨vt, vc, rfl, hx⟩ := h
  have hX : CoX [] w (.agg (coC vt vc c).toArray) c := ⟨vt, vc, rfl, hx⟩
  obtain ⟨W, HW, hbw, bp, bx, bz⟩ : ∃ W, Hid (W = ((w.alloc (.cells (coC vt vc c).toArray 30)).alloc (.cells (B8 mid).toArray 25)).alloc (.cells #[.int .i64 0, .int .u8 0, .int .u8 0, .int .u8 0, .int .u8 0, .int .u8 0, .int .u8 0, .int .u8 0, .int .u8 0, .int .u8 0, .int .u8 0, .int .u8 0, .int .u8 0, .int .u8 0, .int .u8 0, .int .u8 0, .int .u8 0, .int .u8 0, .int .u8 0, .int .u8 0, .int .u8 0, .int .u8 0, .int .u8 0, .int .u8 0, .int .u8 0, .int .u8 0, .int .u8 0, .int .u8 0, .int .u8 0, .int .u8 0, .int .u8 0, .int .u8 0, .int .u8 0, .slice none 0 0, .int .i64 0, .int .i64 0, .int .i64 0, .int .i64 0, .int .i64 0, .int .i64 0, .int .i64 0, .int .i64 0, .slice none 0 0] 30)) ∧ Below w.heap.size w W ∧
      Blk W w.heap.size 30 (coC vt vc c) ∧ Blk W (w.heap.size + 1) 25 (B8 mid) ∧ Blk W (w.heap.size + 2) 30 zeroCC := by
    refine ⟨_, rfl, (((Below.refl _ _).alloc (Nat.le_refl _) _).alloc (by simp) _).alloc (by simp; omega) _, ?_, ?_, ?_⟩
    · exact (Blk.new w (coC vt vc c).toArray 30).to (((Below.refl _ _).alloc (Nat.le_refl _) _).alloc (by simp) _)
    · have := (Blk.new (w.alloc (.cells (coC vt vc c).toArray 30)) (B8 mid).toArray 25).to ((Below.refl _ _).alloc (Nat.le_refl _) (.cells #[.int .i64 0, .int .u8 0, .int .u8 0, .int .u8 0, .int .u8 0, .int .u8 0, .int .u8 0, .int .u8 0, .int .u8 0, .int .u8 0, .int .u8 0, .int .u8 0, .int .u8 0, .int .u8 0, .int .u8 0, .int .u8 0, .int .u8 0, .int .u8 0, .int .u8 0, .int .u8 0, .int .u8 0, .int .u8 0, .int .u8 0, .int .u8 0, .int .u8 0, .int .u8 0, .int .u8 0, .int .u8 0, .int .u8 0, .int .u8 0, .int .u8 0, .int .u8 0, .int .u8 0, .slice none 0 0, .int .i64 0, .int .i64 0, .int .i64 0, .int .i64 0, .int .i64 0, .int .i64 0, .int .i64 0, .int .i64 0, .slice none 0 0] 30))
      simpa using this
    · have := Blk.new ((w.alloc (.cells (coC vt vc c).toArray 30)).alloc (.cells (B8 mid).toArray 25)) #[.int .i64 0, .int .u8 0, .int .u8 0, .int .u8 0, .int .u8 0, .int .u8 0, .int .u8 0, .int .u8 0, .int .u8 0, .int .u8 0, .int .u8 0, .int .u8 0, .int .u8 0, .int .u8 0, .int .u8 0, .int .u8 0, .int .u8 0, .int .u8 0, .int .u8 0, .int .u8 0, .int .u8 0, .int .u8 0, .int .u8 0, .int .u8 0, .int .u8 0, .int .u8 0, .int .u8 0, .int .u8 0, .int .u8 0, .int .u8 0, .int .u8 0, .int .u8 0, .int .u8 0, .slice none 0 0, .int .i64 0, .int .i64 0, .int .i64 0, .int .i64 0, .int .i64 0, .int .i64 0, .int .i64 0, .int .i64 0, .slice none 0 0] 30
      rw [show ((w.alloc (.cells (coC vt vc c).toArray 30)).alloc (.cells (B8 mid).toArray 25)).heap.size = w.heap.size + 2 from by simp] at this
      exact this
  have HC := Lib.hid hc
  have HX := Lib.hid (hX.to hbw)
  have HE := Lib.hid hE
  have ICO := Lib.hid (info_co (vt := vt) (vc := vc) hc.pre hc.bank)
  have hWz := bz.lt
  have t1 : (E == 0) = false := by simpa using hE0
  have t2 : (E != 0) = true := by simpa using hE0
  clear hc hx hX hE
  go_enter Try.func15, Try.ntmps15
  go_upto_region 1 with fail
  refine wp_at HW.out ?_
  clear HW
  go_wp2_with (first
    | (refine wpl_load_fld (by rfl) _ _ rfl w.heap.size 0 rfl (coC vt vc c) _ bp.range Try.underlying30 rfl ICO.out ?_))
  refine (claimant_any _ c HC.out i k g W HX.out).mono ?_
  rintro e w1 ⟨rfl, hb1⟩
  rw [HE.out]
  dsimp only
  have bp1 := bp.to hb1
  have bz1 := bz.to hb1
  have HX1 := Lib.hid (HX.out.to hb1)
  have f1 := hbw.trans (hb1.mono hbw.size)
  have hw1 := hb1.size
  clear bp bz HX hbw hb1 bx
  go_wp2_with (first
    | (refine wpl_load_fld (by rfl) _ _ rfl w.heap.size 0 rfl (coC vt vc c) _ bp1.range Try.underlying30 rfl ICO.out ?_))
  refine (ownC_any _ c HC.out w1 HX1.out).mono ?_
  intro e w6 hro
  obtain ⟨vt6, vc6, rfl, o6t, o6c, hb6, hfin⟩ := hro.xt HC.out
  have hz9 := bz1.lt
  have bz6 := bz1.to hb6
  have f6 := f1.trans (hb6.mono f1.size)
  have hf9 := f1.size
  have IC6 := Lib.hid (info_co (vt := vt6) (vc := vc6) (c := c) HC.out.pre HC.out.bank)
  have HL6 : Hid ((coC vt6 vc6 c).length = 43) := Lib.hid (coC_len (c := c) HC.out.pre HC.out.bank)
  clear hro bz1 f1 HX1 bp1
  go_wp2_with (first
    | (refine wpl_store_fld (by rfl) _ _ _ rfl (w.heap.size + 2) 0 _ _ (coC vt6 vc6 c) rfl _ rfl rfl bz6 (by rw [HL6.out]; exact Nat.le_refl _) IC6.out (coC_one o6t o6c) ?_
       intro w7 bz7 bu7
       rw [put_all _ _ (by rw [HL6.out]; rfl)] at bz7))
  refine bodyPost_ret (results_blk2 Try.results15 rfl rfl bz7 Try.underlying30 rfl IC6.out) rfl ?_
  refine ⟨_, rfl, ?_, f6.trans (below_but bu7 (by omega) f6.size)⟩
  exact fun S hS => hfin (w.heap.size + 2) w7 hz9 bu7 S (fun b hb => by have := hS b hb; omega)
set_option maxRecDepth 100000 in
set_option maxHeartbeats 4000000 in
theorem middle_ok (v : Value) (c : CO) (hc : c.ok) (i g : Int) (mid : List UInt8) (hm : mid.length = 32) (x : CL) (hcl : c.claims = [x]) (q : Nat) (s : SU) (hq : x.suits[q]? = some s) (hne : ∀ y ∈ x.suits, y.hs ≠ []) (hby : 0 ≤ x.by_ ∧ x.by_ < 8) (hsb : ∀ y ∈ x.suits, 0 ≤ y.by_ ∧ y.by_ < 8) (hbk : BkB 10000000 c.bank)
    (m1 : 0 ≤ s.g.moves) (m2 : s.g.moves ≤ 1099511627776) (hE : claimE c i 0 g = ((q : Int), 0)) (w : World) (h : CoX [] w v c) : Calls Try.prog 15 #[v, .int .i64 i, .int .i64 0, .int .i64 g, hv mid] w (RCe w (movedR c x q s (sayD s.g mid c.now)).1 (movedR c x q s (sayD s.g mid c.now)).2) := by
  try unfold hv
  obtain ⟨vt, vc, rfl, hx⟩ := h
  have hX : CoX [] w (.agg (coC vt vc c).toArray) c := ⟨vt, vc, rfl, hx⟩
  obtain ⟨W, HW, hbw, bp, bx, bz⟩ : ∃ W, Hid (W = ((w.alloc (.cells (coC vt vc c).toArray 30)).alloc (.cells (B8 mid).toArray 25)).alloc (.cells #[.int .i64 0, .int .u8 0, .int .u8 0, .int .u8 0, .int .u8 0, .int .u8 0, .int .u8 0, .int .u8 0, .int .u8 0, .int .u8 0, .int .u8 0, .int .u8 0, .int .u8 0, .int .u8 0, .int .u8 0, .int .u8 0, .int .u8 0, .int .u8 0, .int .u8 0, .int .u8 0, .int .u8 0, .int .u8 0, .int .u8 0, .int .u8 0, .int .u8 0, .int .u8 0, .int .u8 0, .int .u8 0, .int .u8 0, .int .u8 0, .int .u8 0, .int .u8 0, .int .u8 0, .slice none 0 0, .int .i64 0, .int .i64 0, .int .i64 0, .int .i64 0, .int .i64 0, .int .i64 0, .int .i64 0, .int .i64 0, .slice none 0 0] 30)) ∧ Below w.heap.size w W ∧
      Blk W w.heap.size 30 (coC vt vc c) ∧ Blk W (w.heap.size + 1) 25 (B8 mid) ∧ Blk W (w.heap.size + 2) 30 zeroCC := by
    refine ⟨_, rfl, (((Below.refl _ _).alloc (Nat.le_refl _) _).alloc (by simp) _).alloc (by simp; omega) _, ?_, ?_, ?_⟩
    · exact (Blk.new w (coC vt vc c).toArray 30).to (((Below.refl _ _).alloc (Nat.le_refl _) _).alloc (by simp) _)
    · have := (Blk.new (w.alloc (.cells (coC vt vc c).toArray 30)) (B8 mid).toArray 25).to ((Below.refl _ _).alloc (Nat.le_refl _) (.cells #[.int .i64 0, .int .u8 0, .int .u8 0, .int .u8 0, .int .u8 0, .int .u8 0, .int .u8 0, .int .u8 0, .int .u8 0, .int .u8 0, .int .u8 0, .int .u8 0, .int .u8 0, .int .u8 0, .int .u8 0, .int .u8 0, .int .u8 0, .int .u8 0, .int .u8 0, .int .u8 0, .int .u8 0, .int .u8 0, .int .u8 0, .int .u8 0, .int .u8 0, .int .u8 0, .int .u8 0, .int .u8 0, .int .u8 0, .int .u8 0, .int .u8 0, .int .u8 0, .int .u8 0, .slice none 0 0, .int .i64 0, .int .i64 0, .int .i64 0, .int .i64 0, .int .i64 0, .int .i64 0, .int .i64 0, .int .i64 0, .slice none 0 0] 30))
      simpa using this
    · have := Blk.new ((w.alloc (.cells (coC vt vc c).toArray 30)).alloc (.cells (B8 mid).toArray 25)) #[.int .i64 0, .int .u8 0, .int .u8 0, .int .u8 0, .int .u8 0, .int .u8 0, .int .u8 0, .int .u8 0, .int .u8 0, .int .u8 0, .int .u8 0, .int .u8 0, .int .u8 0, .int .u8 0, .int .u8 0, .int .u8 0, .int .u8 0, .int .u8 0, .int .u8 0, .int .u8 0, .int .u8 0, .int .u8 0, .int .u8 0, .int .u8 0, .int .u8 0, .int .u8 0, .int .u8 0, .int .u8 0, .int .u8 0, .int .u8 0, .int .u8 0, .int .u8 0, .int .u8 0, .slice none 0 0, .int .i64 0, .int .i64 0, .int .i64 0, .int .i64 0, .int .i64 0, .int .i64 0, .int .i64 0, .int .i64 0, .slice none 0 0] 30
      rw [show ((w.alloc (.cells (coC vt vc c).toArray 30)).alloc (.cells (B8 mid).toArray 25)).heap.size = w.heap.size + 2 from by simp] at this
      exact this
  have HC := Lib.hid hc
  have HX := Lib.hid (hX.to hbw)
  have HE := Lib.hid hE
  have ICO := Lib.hid (info_co (vt := vt) (vc := vc) hc.pre hc.bank)
  have hWz := bz.lt
  have HCL := Lib.hid hcl
  have HQ := Lib.hid hq
  have HNE := Lib.hid hne
  have HBY := Lib.hid hby
  have HSB := Lib.hid hsb
  have HBK := Lib.hid hbk
  have HSO := Lib.hid ((hc.claims x (by rw [hcl]; simp)).suits s (List.mem_of_getElem? hq))
  have HM1 := Lib.hid m1
  have HM2 := Lib.hid m2
  have HMD := Lib.hid hm
  clear hm
  clear hcl hq hne hby hsb hbk m1 m2
  clear hc hx hX hE
  go_enter Try.func15, Try.ntmps15
  go_upto_region 1 with fail
  refine wp_at HW.out ?_
  clear HW
  go_wp2_with (first
    | (refine wpl_load_fld (by rfl) _ _ rfl w.heap.size 0 rfl (coC vt vc c) _ bp.range Try.underlying30 rfl ICO.out ?_))
  refine (claimant_any _ c HC.out i 0 g W HX.out).mono ?_
  rintro e w1 ⟨rfl, hb1⟩
  rw [HE.out]
  dsimp only
  have bp1 := bp.to hb1
  have bz1 := bz.to hb1
  have HX1 := Lib.hid (HX.out.to hb1)
  have bx1 := bx.to hb1
  have f1 := hbw.trans (hb1.mono hbw.size)
  have hw1 := hb1.size
  clear bp bz HX hbw hb1 bx
  go_wp2_with (first
    | (refine wpl_load_fld (by rfl) _ _ rfl w.heap.size 0 rfl (coC vt vc c) _ bp1.range Try.underlying30 rfl ICO.out ?_))
  refine (moved_mid _ c HC.out x HCL.out q s HQ.out HNE.out HBY.out HSB.out HBK.out HM1.out HM2.out mid HMD.out (w.heap.size + 1) w1 bx1 HX1.out).mono ?_
  rintro e w5 ⟨v5, rfl, hs5, hb5⟩
  obtain ⟨c5, hc5⟩ : ∃ c5, (movedR c x q s (sayD s.g mid c.now)).1 = c5 := ⟨_, rfl⟩
  obtain ⟨e5, he5⟩ : ∃ e5, (movedR c x q s (sayD s.g mid c.now)).2 = e5 := ⟨_, rfl⟩
  rw [hc5] at hs5
  simp only [he5]
  have HC5 := Lib.hid hc5
  have HE5 := Lib.hid he5
  have h5o : c5.ok := by
    rw [← hc5]
    exact movedR_ok HC.out HCL.out q HSO.out _ (sayD_ok HSO.out.g HMD.out _)
  have H5O := Lib.hid h5o
  have HS5 := Lib.hid hs5
  obtain ⟨vt5, vc5, rfl, ht5, hvc5⟩ := hs5 [] (fun _ h => by cases h)
  have o5t := ht5.one
  have o5c := hvc5.one
  have I5 := Lib.hid (info_co (vt := vt5) (vc := vc5) (c := c5) h5o.pre h5o.bank)
  have L5 : Hid ((coC vt5 vc5 c5).length = 43) := Lib.hid (coC_len (c := c5) h5o.pre h5o.bank)
  have hz9 := bz1.lt
  have bz5 := bz1.to hb5
  have f5 := f1.trans (hb5.mono f1.size)
  have hf9 := f1.size
  clear hs5 ht5 hvc5 h5o hc5 he5 hb5 bz1 f1
  go_wp2_with (first
    | (refine wpl_store_fld (by rfl) _ _ _ rfl (w.heap.size + 2) 0 _ _ (coC vt5 vc5 c5) rfl _ rfl rfl bz5 (by rw [L5.out]; exact Nat.le_refl _) I5.out (coC_one o5t o5c) ?_
       intro w7 bz7 bu7
       rw [put_all _ _ (by rw [L5.out]; rfl)] at bz7))
  refine bodyPost_ret (results_blk2 Try.results15 rfl rfl bz7 Try.underlying30 rfl I5.out) rfl ?_
  rw [HC5.out]
  try rw [HE5.out]
  refine ⟨_, rfl, ?_, f5.trans (below_but bu7 (by omega) f5.size)⟩
  intro S hS
  refine ((HS5.out ((w.heap.size + 2) :: S) (fun b hb => ?_)).but bu7 (by simp)).less (fun b hb => List.mem_cons_of_mem _ hb)
  rcases List.mem_cons.1 hb with h | h
  · omega
  · have := hS b h
    omega
set_option maxRecDepth 100000 in
set_option maxHeartbeats 4000000 in
theorem side_err (v : Value) (c : CO) (hc : c.ok) (i k : Int) (right : Bool) (hp : partyB i) (E : Int) (hE : openE c i k = (0, E)) (hE0 : E ≠ 0) (w : World) (h : CoX [] w v c) : Calls Try.prog 20 #[v, .int .i64 i, .int .i64 k, .bool right] w (RCe w c E) := by
  try unfold hv
  obtain ⟨vt, vc, rfl, hx⟩ := h
  have hX : CoX [] w (.agg (coC vt vc c).toArray) c := ⟨vt, vc, rfl, hx⟩
  obtain ⟨W, HW, hbw, bp, bx, bz⟩ : ∃ W, Hid (W = ((w.alloc (.cells (coC vt vc c).toArray 30)).alloc (.cells #[.bool right] 4)).alloc (.cells #[.int .i64 0, .int .u8 0, .int .u8 0, .int .u8 0, .int .u8 0, .int .u8 0, .int .u8 0, .int .u8 0, .int .u8 0, .int .u8 0, .int .u8 0, .int .u8 0, .int .u8 0, .int .u8 0, .int .u8 0, .int .u8 0, .int .u8 0, .int .u8 0, .int .u8 0, .int .u8 0, .int .u8 0, .int .u8 0, .int .u8 0, .int .u8 0, .int .u8 0, .int .u8 0, .int .u8 0, .int .u8 0, .int .u8 0, .int .u8 0, .int .u8 0, .int .u8 0, .int .u8 0, .slice none 0 0, .int .i64 0, .int .i64 0, .int .i64 0, .int .i64 0, .int .i64 0, .int .i64 0, .int .i64 0, .int .i64 0, .slice none 0 0] 30)) ∧ Below w.heap.size w W ∧
      Blk W w.heap.size 30 (coC vt vc c) ∧ Blk W (w.heap.size + 1) 4 [.bool right] ∧ Blk W (w.heap.size + 2) 30 zeroCC := by
    refine ⟨_, rfl, (((Below.refl _ _).alloc (Nat.le_refl _) _).alloc (by simp) _).alloc (by simp; omega) _, ?_, ?_, ?_⟩
    · exact (Blk.new w (coC vt vc c).toArray 30).to (((Below.refl _ _).alloc (Nat.le_refl _) _).alloc (by simp) _)
    · have := (Blk.new (w.alloc (.cells (coC vt vc c).toArray 30)) #[.bool right] 4).to ((Below.refl _ _).alloc (Nat.le_refl _) (.cells #[.int .i64 0, .int .u8 0, .int .u8 0, .int .u8 0, .int .u8 0, .int .u8 0, .int .u8 0, .int .u8 0, .int .u8 0, .int .u8 0, .int .u8 0, .int .u8 0, .int .u8 0, .int .u8 0, .int .u8 0, .int .u8 0, .int .u8 0, .int .u8 0, .int .u8 0, .int .u8 0, .int .u8 0, .int .u8 0, .int .u8 0, .int .u8 0, .int .u8 0, .int .u8 0, .int .u8 0, .int .u8 0, .int .u8 0, .int .u8 0, .int .u8 0, .int .u8 0, .int .u8 0, .slice none 0 0, .int .i64 0, .int .i64 0, .int .i64 0, .int .i64 0, .int .i64 0, .int .i64 0, .int .i64 0, .int .i64 0, .slice none 0 0] 30))
      simpa using this
    · have := Blk.new ((w.alloc (.cells (coC vt vc c).toArray 30)).alloc (.cells #[.bool right] 4)) #[.int .i64 0, .int .u8 0, .int .u8 0, .int .u8 0, .int .u8 0, .int .u8 0, .int .u8 0, .int .u8 0, .int .u8 0, .int .u8 0, .int .u8 0, .int .u8 0, .int .u8 0, .int .u8 0, .int .u8 0, .int .u8 0, .int .u8 0, .int .u8 0, .int .u8 0, .int .u8 0, .int .u8 0, .int .u8 0, .int .u8 0, .int .u8 0, .int .u8 0, .int .u8 0, .int .u8 0, .int .u8 0, .int .u8 0, .int .u8 0, .int .u8 0, .int .u8 0, .int .u8 0, .slice none 0 0, .int .i64 0, .int .i64 0, .int .i64 0, .int .i64 0, .int .i64 0, .int .i64 0, .int .i64 0, .int .i64 0, .slice none 0 0] 30
      rw [show ((w.alloc (.cells (coC vt vc c).toArray 30)).alloc (.cells #[.bool right] 4)).heap.size = w.heap.size + 2 from by simp] at this
      exact this
  have HC := Lib.hid hc
  have HX := Lib.hid (hX.to hbw)
  have HE := Lib.hid hE
  have ICO := Lib.hid (info_co (vt := vt) (vc := vc) hc.pre hc.bank)
  have hWz := bz.lt
  have t1 : (E == 0) = false := by simpa using hE0
  have t2 : (E != 0) = true := by simpa using hE0
  clear hc hx hX hE
  go_enter Try.func20, Try.ntmps20
  go_upto_region 1 with fail
  refine wp_at HW.out ?_
  clear HW
  go_wp2_with fail
  refine (party_yes _ W hp).mono ?_
  rintro e w' ⟨rfl, rfl⟩
  go_wp2_with (first
    | (refine wpl_load_fld (by rfl) _ _ rfl w.heap.size 0 rfl (coC vt vc c) _ bp.range Try.underlying30 rfl ICO.out ?_))
  refine (openC_any _ c HC.out i k W HX.out).mono ?_
  rintro e w1 ⟨rfl, hb1⟩
  rw [HE.out]
  dsimp only
  have bp1 := bp.to hb1
  have bz1 := bz.to hb1
  have HX1 := Lib.hid (HX.out.to hb1)
  have f1 := hbw.trans (hb1.mono hbw.size)
  have hw1 := hb1.size
  clear bp bz HX hbw hb1 bx
  go_wp2_with (first
    | (refine wpl_load_fld (by rfl) _ _ rfl w.heap.size 0 rfl (coC vt vc c) _ bp1.range Try.underlying30 rfl ICO.out ?_))
  refine (ownC_any _ c HC.out w1 HX1.out).mono ?_
  intro e w6 hro
  obtain ⟨vt6, vc6, rfl, o6t, o6c, hb6, hfin⟩ := hro.xt HC.out
  have hz9 := bz1.lt
  have bz6 := bz1.to hb6
  have f6 := f1.trans (hb6.mono f1.size)
  have hf9 := f1.size
  have IC6 := Lib.hid (info_co (vt := vt6) (vc := vc6) (c := c) HC.out.pre HC.out.bank)
  have HL6 : Hid ((coC vt6 vc6 c).length = 43) := Lib.hid (coC_len (c := c) HC.out.pre HC.out.bank)
  clear hro bz1 f1 HX1 bp1
  go_wp2_with (first
    | (refine wpl_store_fld (by rfl) _ _ _ rfl (w.heap.size + 2) 0 _ _ (coC vt6 vc6 c) rfl _ rfl rfl bz6 (by rw [HL6.out]; exact Nat.le_refl _) IC6.out (coC_one o6t o6c) ?_
       intro w7 bz7 bu7
       rw [put_all _ _ (by rw [HL6.out]; rfl)] at bz7))
  refine bodyPost_ret (results_blk2 Try.results20 rfl rfl bz7 Try.underlying30 rfl IC6.out) rfl ?_
  refine ⟨_, rfl, ?_, f6.trans (below_but bu7 (by omega) f6.size)⟩
  exact fun S hS => hfin (w.heap.size + 2) w7 hz9 bu7 S (fun b hb => by have := hS b hb; omega)
set_option maxRecDepth 100000 in
set_option maxHeartbeats 4000000 in
theorem side_ok (v : Value) (c : CO) (hc : c.ok) (i : Int) (right : Bool) (hp : partyB i) (x : CL) (hcl : c.claims = [x]) (q : Nat) (s : SU) (hq : x.suits[q]? = some s) (hne : ∀ y ∈ x.suits, y.hs ≠ []) (hby : 0 ≤ x.by_ ∧ x.by_ < 8) (hsb : ∀ y ∈ x.suits, 0 ≤ y.by_ ∧ y.by_ < 8) (hbk : BkB 10000000 c.bank)
    (m1 : 0 ≤ s.g.moves) (m2 : s.g.moves ≤ 1099511627776) (l1 : 0 ≤ s.g.lo) (l2 : s.g.lo ≤ s.g.hi) (l3 : s.g.hi ≤ 1099511627776) (hE : openE c i 0 = ((q : Int), 0)) (w : World) (h : CoX [] w v c) : Calls Try.prog 20 #[v, .int .i64 i, .int .i64 0, .bool right] w (RCe w (movedR c x q s (chooseD s.g right c.now)).1 (movedR c x q s (chooseD s.g right c.now)).2) := by
  try unfold hv
  obtain ⟨vt, vc, rfl, hx⟩ := h
  have hX : CoX [] w (.agg (coC vt vc c).toArray) c := ⟨vt, vc, rfl, hx⟩
  obtain ⟨W, HW, hbw, bp, bx, bz⟩ : ∃ W, Hid (W = ((w.alloc (.cells (coC vt vc c).toArray 30)).alloc (.cells #[.bool right] 4)).alloc (.cells #[.int .i64 0, .int .u8 0, .int .u8 0, .int .u8 0, .int .u8 0, .int .u8 0, .int .u8 0, .int .u8 0, .int .u8 0, .int .u8 0, .int .u8 0, .int .u8 0, .int .u8 0, .int .u8 0, .int .u8 0, .int .u8 0, .int .u8 0, .int .u8 0, .int .u8 0, .int .u8 0, .int .u8 0, .int .u8 0, .int .u8 0, .int .u8 0, .int .u8 0, .int .u8 0, .int .u8 0, .int .u8 0, .int .u8 0, .int .u8 0, .int .u8 0, .int .u8 0, .int .u8 0, .slice none 0 0, .int .i64 0, .int .i64 0, .int .i64 0, .int .i64 0, .int .i64 0, .int .i64 0, .int .i64 0, .int .i64 0, .slice none 0 0] 30)) ∧ Below w.heap.size w W ∧
      Blk W w.heap.size 30 (coC vt vc c) ∧ Blk W (w.heap.size + 1) 4 [.bool right] ∧ Blk W (w.heap.size + 2) 30 zeroCC := by
    refine ⟨_, rfl, (((Below.refl _ _).alloc (Nat.le_refl _) _).alloc (by simp) _).alloc (by simp; omega) _, ?_, ?_, ?_⟩
    · exact (Blk.new w (coC vt vc c).toArray 30).to (((Below.refl _ _).alloc (Nat.le_refl _) _).alloc (by simp) _)
    · have := (Blk.new (w.alloc (.cells (coC vt vc c).toArray 30)) #[.bool right] 4).to ((Below.refl _ _).alloc (Nat.le_refl _) (.cells #[.int .i64 0, .int .u8 0, .int .u8 0, .int .u8 0, .int .u8 0, .int .u8 0, .int .u8 0, .int .u8 0, .int .u8 0, .int .u8 0, .int .u8 0, .int .u8 0, .int .u8 0, .int .u8 0, .int .u8 0, .int .u8 0, .int .u8 0, .int .u8 0, .int .u8 0, .int .u8 0, .int .u8 0, .int .u8 0, .int .u8 0, .int .u8 0, .int .u8 0, .int .u8 0, .int .u8 0, .int .u8 0, .int .u8 0, .int .u8 0, .int .u8 0, .int .u8 0, .int .u8 0, .slice none 0 0, .int .i64 0, .int .i64 0, .int .i64 0, .int .i64 0, .int .i64 0, .int .i64 0, .int .i64 0, .int .i64 0, .slice none 0 0] 30))
      simpa using this
    · have := Blk.new ((w.alloc (.cells (coC vt vc c).toArray 30)).alloc (.cells #[.bool right] 4)) #[.int .i64 0, .int .u8 0, .int .u8 0, .int .u8 0, .int .u8 0, .int .u8 0, .int .u8 0, .int .u8 0, .int .u8 0, .int .u8 0, .int .u8 0, .int .u8 0, .int .u8 0, .int .u8 0, .int .u8 0, .int .u8 0, .int .u8 0, .int .u8 0, .int .u8 0, .int .u8 0, .int .u8 0, .int .u8 0, .int .u8 0, .int .u8 0, .int .u8 0, .int .u8 0, .int .u8 0, .int .u8 0, .int .u8 0, .int .u8 0, .int .u8 0, .int .u8 0, .int .u8 0, .slice none 0 0, .int .i64 0, .int .i64 0, .int .i64 0, .int .i64 0, .int .i64 0, .int .i64 0, .int .i64 0, .int .i64 0, .slice none 0 0] 30
      rw [show ((w.alloc (.cells (coC vt vc c).toArray 30)).alloc (.cells #[.bool right] 4)).heap.size = w.heap.size + 2 from by simp] at this
      exact this
  have HC := Lib.hid hc
  have HX := Lib.hid (hX.to hbw)
  have HE := Lib.hid hE
  have ICO := Lib.hid (info_co (vt := vt) (vc := vc) hc.pre hc.bank)
  have hWz := bz.lt
  have HCL := Lib.hid hcl
  have HQ := Lib.hid hq
  have HNE := Lib.hid hne
  have HBY := Lib.hid hby
  have HSB := Lib.hid hsb
  have HBK := Lib.hid hbk
  have HSO := Lib.hid ((hc.claims x (by rw [hcl]; simp)).suits s (List.mem_of_getElem? hq))
  have HM1 := Lib.hid m1
  have HM2 := Lib.hid m2
  have HL1 := Lib.hid l1
  have HL2 := Lib.hid l2
  have HL3 := Lib.hid l3
  clear l1 l2 l3
  clear hcl hq hne hby hsb hbk m1 m2
  clear hc hx hX hE
  go_enter Try.func20, Try.ntmps20
  go_upto_region 1 with fail
  refine wp_at HW.out ?_
  clear HW
  go_wp2_with fail
  refine (party_yes _ W hp).mono ?_
  rintro e w' ⟨rfl, rfl⟩
  go_wp2_with (first
    | (refine wpl_load_fld (by rfl) _ _ rfl w.heap.size 0 rfl (coC vt vc c) _ bp.range Try.underlying30 rfl ICO.out ?_))
  refine (openC_any _ c HC.out i 0 W HX.out).mono ?_
  rintro e w1 ⟨rfl, hb1⟩
  rw [HE.out]
  dsimp only
  have bp1 := bp.to hb1
  have bz1 := bz.to hb1
  have HX1 := Lib.hid (HX.out.to hb1)
  have bx1 := bx.to hb1
  have f1 := hbw.trans (hb1.mono hbw.size)
  have hw1 := hb1.size
  clear bp bz HX hbw hb1 bx
  go_wp2_with (first
    | (refine wpl_load_fld (by rfl) _ _ rfl w.heap.size 0 rfl (coC vt vc c) _ bp1.range Try.underlying30 rfl ICO.out ?_))
  refine (moved_side _ c HC.out x HCL.out q s HQ.out HNE.out HBY.out HSB.out HBK.out HM1.out HM2.out HL1.out HL2.out HL3.out right (w.heap.size + 1) w1 bx1 HX1.out).mono ?_
  rintro e w5 ⟨v5, rfl, hs5, hb5⟩
  obtain ⟨c5, hc5⟩ : ∃ c5, (movedR c x q s (chooseD s.g right c.now)).1 = c5 := ⟨_, rfl⟩
  obtain ⟨e5, he5⟩ : ∃ e5, (movedR c x q s (chooseD s.g right c.now)).2 = e5 := ⟨_, rfl⟩
  rw [hc5] at hs5
  simp only [he5]
  have HC5 := Lib.hid hc5
  have HE5 := Lib.hid he5
  have h5o : c5.ok := by
    rw [← hc5]
    exact movedR_ok HC.out HCL.out q HSO.out _ (chooseD_ok HSO.out.g right _)
  have H5O := Lib.hid h5o
  have HS5 := Lib.hid hs5
  obtain ⟨vt5, vc5, rfl, ht5, hvc5⟩ := hs5 [] (fun _ h => by cases h)
  have o5t := ht5.one
  have o5c := hvc5.one
  have I5 := Lib.hid (info_co (vt := vt5) (vc := vc5) (c := c5) h5o.pre h5o.bank)
  have L5 : Hid ((coC vt5 vc5 c5).length = 43) := Lib.hid (coC_len (c := c5) h5o.pre h5o.bank)
  have hz9 := bz1.lt
  have bz5 := bz1.to hb5
  have f5 := f1.trans (hb5.mono f1.size)
  have hf9 := f1.size
  clear hs5 ht5 hvc5 h5o hc5 he5 hb5 bz1 f1
  go_wp2_with (first
    | (refine wpl_store_fld (by rfl) _ _ _ rfl (w.heap.size + 2) 0 _ _ (coC vt5 vc5 c5) rfl _ rfl rfl bz5 (by rw [L5.out]; exact Nat.le_refl _) I5.out (coC_one o5t o5c) ?_
       intro w7 bz7 bu7
       rw [put_all _ _ (by rw [L5.out]; rfl)] at bz7))
  refine bodyPost_ret (results_blk2 Try.results20 rfl rfl bz7 Try.underlying30 rfl I5.out) rfl ?_
  rw [HC5.out]
  try rw [HE5.out]
  refine ⟨_, rfl, ?_, f5.trans (below_but bu7 (by omega) f5.size)⟩
  intro S hS
  refine ((HS5.out ((w.heap.size + 2) :: S) (fun b hb => ?_)).but bu7 (by simp)).less (fun b hb => List.mem_cons_of_mem _ hb)
  rcases List.mem_cons.1 hb with h | h
  · omega
  · have := hS b h
    omega
set_option maxRecDepth 100000 in
set_option maxHeartbeats 4000000 in
theorem side_no (v : Value) (c : CO) (hc : c.ok) (i k : Int) (right : Bool) (hp : ¬ partyB i) (w : World) (h : CoX [] w v c) : Calls Try.prog 20 #[v, .int .i64 i, .int .i64 k, .bool right] w (RCe w c 1) := by
  try unfold hv
  obtain ⟨vt, vc, rfl, hx⟩ := h
  have hX : CoX [] w (.agg (coC vt vc c).toArray) c := ⟨vt, vc, rfl, hx⟩
  obtain ⟨W, HW, hbw, bp, bx, bz⟩ : ∃ W, Hid (W = ((w.alloc (.cells (coC vt vc c).toArray 30)).alloc (.cells #[.bool right] 4)).alloc (.cells #[.int .i64 0, .int .u8 0, .int .u8 0, .int .u8 0, .int .u8 0, .int .u8 0, .int .u8 0, .int .u8 0, .int .u8 0, .int .u8 0, .int .u8 0, .int .u8 0, .int .u8 0, .int .u8 0, .int .u8 0, .int .u8 0, .int .u8 0, .int .u8 0, .int .u8 0, .int .u8 0, .int .u8 0, .int .u8 0, .int .u8 0, .int .u8 0, .int .u8 0, .int .u8 0, .int .u8 0, .int .u8 0, .int .u8 0, .int .u8 0, .int .u8 0, .int .u8 0, .int .u8 0, .slice none 0 0, .int .i64 0, .int .i64 0, .int .i64 0, .int .i64 0, .int .i64 0, .int .i64 0, .int .i64 0, .int .i64 0, .slice none 0 0] 30)) ∧ Below w.heap.size w W ∧
      Blk W w.heap.size 30 (coC vt vc c) ∧ Blk W (w.heap.size + 1) 4 [.bool right] ∧ Blk W (w.heap.size + 2) 30 zeroCC := by
    refine ⟨_, rfl, (((Below.refl _ _).alloc (Nat.le_refl _) _).alloc (by simp) _).alloc (by simp; omega) _, ?_, ?_, ?_⟩
    · exact (Blk.new w (coC vt vc c).toArray 30).to (((Below.refl _ _).alloc (Nat.le_refl _) _).alloc (by simp) _)
    · have := (Blk.new (w.alloc (.cells (coC vt vc c).toArray 30)) #[.bool right] 4).to ((Below.refl _ _).alloc (Nat.le_refl _) (.cells #[.int .i64 0, .int .u8 0, .int .u8 0, .int .u8 0, .int .u8 0, .int .u8 0, .int .u8 0, .int .u8 0, .int .u8 0, .int .u8 0, .int .u8 0, .int .u8 0, .int .u8 0, .int .u8 0, .int .u8 0, .int .u8 0, .int .u8 0, .int .u8 0, .int .u8 0, .int .u8 0, .int .u8 0, .int .u8 0, .int .u8 0, .int .u8 0, .int .u8 0, .int .u8 0, .int .u8 0, .int .u8 0, .int .u8 0, .int .u8 0, .int .u8 0, .int .u8 0, .int .u8 0, .slice none 0 0, .int .i64 0, .int .i64 0, .int .i64 0, .int .i64 0, .int .i64 0, .int .i64 0, .int .i64 0, .int .i64 0, .slice none 0 0] 30))
      simpa using this
    · have := Blk.new ((w.alloc (.cells (coC vt vc c).toArray 30)).alloc (.cells #[.bool right] 4)) #[.int .i64 0, .int .u8 0, .int .u8 0, .int .u8 0, .int .u8 0, .int .u8 0, .int .u8 0, .int .u8 0, .int .u8 0, .int .u8 0, .int .u8 0, .int .u8 0, .int .u8 0, .int .u8 0, .int .u8 0, .int .u8 0, .int .u8 0, .int .u8 0, .int .u8 0, .int .u8 0, .int .u8 0, .int .u8 0, .int .u8 0, .int .u8 0, .int .u8 0, .int .u8 0, .int .u8 0, .int .u8 0, .int .u8 0, .int .u8 0, .int .u8 0, .int .u8 0, .int .u8 0, .slice none 0 0, .int .i64 0, .int .i64 0, .int .i64 0, .int .i64 0, .int .i64 0, .int .i64 0, .int .i64 0, .int .i64 0, .slice none 0 0] 30
      rw [show ((w.alloc (.cells (coC vt vc c).toArray 30)).alloc (.cells #[.bool right] 4)).heap.size = w.heap.size + 2 from by simp] at this
      exact this
  have HC := Lib.hid hc
  have HX := Lib.hid (hX.to hbw)
  have ICO := Lib.hid (info_co (vt := vt) (vc := vc) hc.pre hc.bank)
  have hWz := bz.lt
  clear hc hx hX
  go_enter Try.func20, Try.ntmps20
  go_upto_region 1 with fail
  refine wp_at HW.out ?_
  clear HW
  go_wp2_with fail
  refine (party_no _ W hp).mono ?_
  rintro e w1 ⟨rfl, hw1⟩
  subst hw1
  have bp1 := bp
  have bz1 := bz
  have HX1 := HX
  have f1 := hbw
  clear bp bz HX hbw bx
  go_wp2_with (first
    | (refine wpl_load_fld (by rfl) _ _ rfl w.heap.size 0 rfl (coC vt vc c) _ bp1.range Try.underlying30 rfl ICO.out ?_))
  refine (ownC_any _ c HC.out W HX1.out).mono ?_
  intro e w6 hro
  obtain ⟨vt6, vc6, rfl, o6t, o6c, hb6, hfin⟩ := hro.xt HC.out
  have hz9 := bz1.lt
  have bz6 := bz1.to hb6
  have f6 := f1.trans (hb6.mono f1.size)
  have hf9 := f1.size
  have IC6 := Lib.hid (info_co (vt := vt6) (vc := vc6) (c := c) HC.out.pre HC.out.bank)
  have HL6 : Hid ((coC vt6 vc6 c).length = 43) := Lib.hid (coC_len (c := c) HC.out.pre HC.out.bank)
  clear hro bz1 f1 HX1 bp1
  go_wp2_with (first
    | (refine wpl_store_fld (by rfl) _ _ _ rfl (w.heap.size + 2) 0 _ _ (coC vt6 vc6 c) rfl _ rfl rfl bz6 (by rw [HL6.out]; exact Nat.le_refl _) IC6.out (coC_one o6t o6c) ?_
       intro w7 bz7 bu7
       rw [put_all _ _ (by rw [HL6.out]; rfl)] at bz7))
  refine bodyPost_ret (results_blk2 Try.results20 rfl rfl bz7 Try.underlying30 rfl IC6.out) rfl ?_
  refine ⟨_, rfl, ?_, f6.trans (below_but bu7 (by omega) f6.size)⟩
  exact fun S hS => hfin (w.heap.size + 2) w7 hz9 bu7 S (fun b hb => by have := hS b hb; omega)
end Go.Proofs.Ytdopgooglicaiaa
/- What CourtMoves does to its court: plain. -/
set_option linter.unusedSimpArgs false
set_option linter.unusedVariables false
namespace Go.Proofs.Ytdopgooglicaiaa
open Go.RowKit
set_option maxRecDepth 100000
theorem one_open {c : CO} {x : CL} {s : SU} (hcl : c.claims = [x]) (hs : x.suits = [s]) (hst : x.st = 1) (i : Int) : openE c i 0 = if s.by_ = i then (0, 0) else (0, 2) := by
  have hf : findC c i 0 = if s.by_ = i then 0 else -1 := by
    unfold findC
    rw [hcl, if_pos (by simp)]
    show findS i x.suits 0 = _
    rw [hs]
    rfl
  unfold openE
  rw [hf, hcl]
  by_cases h : s.by_ = i
  · rw [if_pos h, if_pos h, if_neg (by decide), if_neg (by show ¬ x.st ≠ 1; rw [hst]; decide)]
  · rw [if_neg h, if_neg h, if_pos (by decide)]
theorem one_claim {c : CO} {x : CL} {s : SU} (hcl : c.claims = [x]) (hs : x.suits = [s]) (hst : x.st = 1) (i g : Int) : claimE c i 0 g = if ¬ partyB i ∨ ¬ partyB g then (0, 1) else if x.by_ ≠ i then (0, 1) else if s.by_ = g then (0, 0) else (0, 2) := by
  unfold claimE
  rw [one_open hcl hs hst]
  by_cases h : ¬ partyB i ∨ ¬ partyB g
  · rw [if_pos h, if_pos h]
  · rw [if_neg h, if_neg h, if_neg (by rw [hcl]; simp), hcl]
    rfl
theorem one_past {c : CO} {x : CL} (hcl : c.claims = [x]) (i g k : Int) (hk : 1 ≤ k) (hi : partyB i) (hg : partyB g) : claimE c i k g = (0, 2) := by
  unfold claimE
  rw [if_neg (by intro h; rcases h with h | h; exact h hi; exact h hg), if_pos (by rw [hcl]; simp; omega)]
def mvX0 : CL := ⟨2, 4, 0, 1, one_ 9, []⟩
def mvS : CO := saidC (hallC 300 (hashL 5)) 2 4 (one_ 9)
def mvG : GD := turnD (startD 4 (one_ 1) (one_ 9) 0)
def mvSu : SU := ⟨5, mvG, (hashL 5).take 4⟩
def mvX : CL := ⟨2, 4, 0, 1, one_ 9, [mvSu]⟩
def mvC : CO := ⟨0, one_ 1, hashL 5, [300, 300, 200, 300, 300, 200, 300, 300], [mvX]⟩
def mvG2 : GD := movedD { mvG with mid := one_ 7, turn := 2 } 0
def mvSu2 : SU := ⟨5, mvG2, (hashL 5).take 4⟩
def mvX2 : CL := ⟨2, 4, 0, 1, one_ 9, [mvSu2]⟩
def mvM : CO := ⟨0, one_ 1, hashL 5, [300, 300, 200, 300, 300, 200, 300, 300], [mvX2]⟩
def mvG3 : GD := movedD (turnD (halfD mvG2 true)) 0
def mvN : CO := ⟨0, one_ 1, hashL 5, [300, 300, 200, 300, 300, 200, 300, 300], [⟨2, 4, 0, 1, one_ 9, [⟨5, mvG3, (hashL 5).take 4⟩]⟩]⟩
theorem hl4 : ∀ x ∈ (hashL 5).take 4, x.length = 32 := fun x hx => hashL_all 5 x (List.mem_of_mem_take hx)
theorem mvS_ok : mvS.ok := by
  have h := hallC_ok 300 (hashL 5) (hashL_all 5) (by rw [hashL_len]; decide)
  exact ⟨h.pre, h.txs, h.n, rfl, fun x hx => by
    rcases List.mem_append.1 hx with h' | h'
    · cases h'
    · rw [List.mem_singleton.1 h']
      exact ⟨rfl, (by intro s hs; cases hs), Nat.zero_le _⟩, by decide⟩
theorem mvSu_ok : mvSu.ok := ⟨⟨rfl, rfl, rfl⟩, hl4, by show ((hashL 5).take 4).length ≤ _; rw [List.length_take]; omega⟩
theorem mvSu2_ok : mvSu2.ok := ⟨⟨rfl, rfl, rfl⟩, hl4, by show ((hashL 5).take 4).length ≤ _; rw [List.length_take]; omega⟩
theorem mv_ok_of (x : CL) (hx : x.ok) : CO.ok ⟨0, one_ 1, hashL 5, [300, 300, 200, 300, 300, 200, 300, 300], [x]⟩ :=
  ⟨rfl, hashL_all 5, by show (hashL 5).length ≤ _; rw [hashL_len]; decide, rfl, fun y hy => by rw [List.mem_singleton.1 hy]; exact hx, by show [_].length ≤ 4096; simp⟩
theorem mvX_ok (s : SU) (hs : s.ok) : CL.ok ⟨2, 4, 0, 1, one_ 9, [s]⟩ := ⟨rfl, fun y hy => by rw [List.mem_singleton.1 hy]; exact hs, by show [_].length ≤ 4096; simp⟩
theorem mvC_ok : mvC.ok := mv_ok_of _ (mvX_ok _ mvSu_ok)
theorem mvM_ok : mvM.ok := mv_ok_of _ (mvX_ok _ mvSu2_ok)
theorem mvN_ok : mvN.ok := mv_ok_of _ (mvX_ok _ ⟨⟨rfl, rfl, rfl⟩, hl4, by show ((hashL 5).take 4).length ≤ _; rw [List.length_take]; omega⟩)
theorem mv_sue : sueR mvS mvX0 5 0 = (mvC, 0) := by
  unfold sueR
  rw [if_neg (by decide), if_neg (by decide), if_neg (by decide), if_neg (by decide), if_neg (by decide)]
  rfl
theorem mv_bk : BkB 10000000 [300, 300, 200, 300, 300, 200, 300, 300] := ⟨rfl, by decide⟩
theorem mv_hne (g : GD) : ∀ y ∈ ([⟨5, g, (hashL 5).take 4⟩] : List SU), y.hs ≠ [] := fun y hy => by
  rw [List.mem_singleton.1 hy]
  show (hashL 5).take 4 ≠ []
  intro h
  have := congrArg List.length h
  rw [List.length_take, hashL_len] at this
  cases this
theorem mv_hsb (g : GD) : ∀ y ∈ ([⟨5, g, (hashL 5).take 4⟩] : List SU), 0 ≤ y.by_ ∧ y.by_ < 8 := fun y hy => by
  rw [List.mem_singleton.1 hy]
  show (0 : Int) ≤ 5 ∧ (5 : Int) < 8
  decide
theorem mv_say : movedR mvC mvX 0 mvSu (sayD mvSu.g (one_ 7) mvC.now) = (mvM, 0) := by
  have e : sayD mvSu.g (one_ 7) mvC.now = (mvG2, 0) := by
    show sayD mvG (one_ 7) 0 = _
    unfold sayD
    rw [if_pos (by decide)]
    rfl
  rw [e]
  unfold movedR
  rw [if_pos rfl]
  unfold layC
  rw [if_neg (by show ¬ mvG2.turn = 4; decide)]
  rfl
theorem mv_say2 (mid : List UInt8) : movedR mvM mvX2 0 mvSu2 (sayD mvSu2.g mid mvM.now) = (mvM, 17) := by
  have e : sayD mvSu2.g mid mvM.now = (mvG2, 17) := by
    show sayD mvG2 mid 0 = _
    unfold sayD
    rw [show mayE mvG2 1 0 = 17 from by decide, if_neg (by decide)]
  rw [e]
  unfold movedR
  rw [if_neg (by decide)]
theorem mv_side (r : Bool) : movedR mvC mvX 0 mvSu (chooseD mvSu.g r mvC.now) = (mvC, 17) := by
  have e : chooseD mvSu.g r mvC.now = (mvG, 17) := by
    show chooseD mvG r 0 = _
    unfold chooseD
    rw [show mayE mvG 2 0 = 17 from by decide, if_neg (by decide)]
  rw [e]
  unfold movedR
  rw [if_neg (by decide)]
theorem mv_side2 : movedR mvM mvX2 0 mvSu2 (chooseD mvSu2.g true mvM.now) = (mvN, 0) := by
  have e : chooseD mvSu2.g true mvM.now = (mvG3, 0) := by
    show chooseD mvG2 true 0 = _
    unfold chooseD
    rw [if_pos (by decide)]
    rfl
  rw [e]
  unfold movedR
  rw [if_pos rfl]
  unfold layC
  rw [if_neg (by show ¬ mvG3.turn = 4; decide)]
  rfl
theorem builtC7 : Try.prog.built 25 [(0, .int .u8 7)] = some (B8 (one_ 7)).toArray := by kernel_rfl
theorem builtC8 : Try.prog.built 25 [(0, .int .u8 8)] = some (B8 (one_ 8)).toArray := by kernel_rfl
end Go.Proofs.Ytdopgooglicaiaa
/- The walk of capstanlaw17.known. -/
set_option linter.unusedSimpArgs false
set_option linter.unusedVariables false
namespace Go.Proofs.Ytdopgooglicaiaa
open Go.RowKit
set_option maxRecDepth 100000
theorem one_snd {α β : Type} {l : List (α × β)} {x : β} (h : l.map (·.2) = [x]) : ∃ u, l = [(u, x)] := by
  cases l with
  | nil => cases h
  | cons p l =>
    cases l with
    | nil =>
      simp at h
      exact ⟨p.1, by rw [← h]⟩
    | cons q l => simp at h
set_option maxRecDepth 100000 in
set_option maxHeartbeats 4000000 in
theorem courtKnown_any (w : World) : Calls Try.prog 9 #[] w (RB true w) := by
  go_enter Try.func9, Try.ntmps9
  go_wp2_with (first
    | (refine wpl_build (by rfl) _ _ rfl _ (by exact builtC1) ?_))
  refine (newC_any (one_ 1) rfl 100 (by omega) (by omega) w).mono ?_
  rintro en w1 ⟨v1, rfl, hs1, hb1⟩
  obtain ⟨vt1, vc1, rfl, ht1, hc1⟩ := hs1 [] (fun _ h => by cases h)
  have o1t := ht1.one
  have o1c := hc1.one
  have I1 := Lib.hid (info_co (vt := vt1) (vc := vc1) (c := newCO 100) rfl rfl)
  have L1 : Hid ((coC vt1 vc1 (newCO 100)).length = 43) := Lib.hid (coC_len (c := newCO 100) rfl rfl)
  obtain ⟨C, hC⟩ : ∃ C, w1.heap.size = C := ⟨_, rfl⟩
  have hwC : w.heap.size ≤ C := by rw [← hC]; exact hb1.size
  have HC1 := Lib.hid hC
  clear hC
  have hbl : (B8 (one_ 2)).length = 32 := rfl
  clear hs1
  go_wp2_with (first
    | (refine wpl_store_new rfl _ _ _ rfl 30 _ (coC vt1 vc1 (newCO 100)) rfl rfl (by rw [L1.out]; rfl) I1.out (coC_one o1t o1c) ?_
       intro w2 d1 hb2
       simp only [Act.put, List.setIfInBounds_toArray, List.set_cons_zero, List.set_cons_succ]
       rw [HC1.out] at d1 ⊢)
    | (refine wpl_load_fld (by rfl) _ _ rfl C 0 rfl (coC vt1 vc1 (newCO 100)) _ d1.range Try.underlying30 rfl I1.out ?_)
    | (refine wpl_build (by rfl) _ _ rfl _ (by exact builtC2) ?_))
  rw [fold_sum' (one_ 2) rfl]
  have s2 : Sl (w2.alloc (.cells (B8 (one_ 2)).toArray 25)) 32 (some ⟨w2.heap.size, 0, none⟩) 1 (H8 [one_ 2]) := by
    have := Sl.new w2 (B8 (one_ 2)).toArray 25 (0, 0) (size := 32) 1 rfl
    simpa [H8] using this
  have h2a : Below w2.heap.size w2 (w2.alloc (.cells (B8 (one_ 2)).toArray 25)) := (Below.refl _ _).alloc (Nat.le_refl _) _
  have Y1 : CoX [] w1 (.agg (coC vt1 vc1 (newCO 100)).toArray) (newCO 100) := ⟨vt1, vc1, rfl, ht1, hc1⟩
  have g1 := hb1.trans (hb2.mono hb1.size)
  have e2 := d1.to h2a
  have Z1 := (Y1.to hb2).to h2a
  have g2 := g1.trans (h2a.mono g1.size)
  generalize w2.alloc (.cells (B8 (one_ 2)).toArray 25) = w3 at *
  clear hbl d1 hb2 h2a Y1 g1 ht1 hc1 hb1
  refine (addC_any _ (newCO 100) (newCO_ok 100) _ 1 1 [one_ 2] (by intro x hx; rw [List.mem_singleton.1 hx]; rfl) w3 s2 rfl (by decide) Z1).mono ?_
  rintro en w4 ⟨v2, rfl, hs2, hb2⟩
  change ∀ S : List Nat, _ → CoX S w4 v2 (hallC 100 [one_ 2]) at hs2
  have hC2 := e2.lt
  obtain ⟨vt2, vc2, rfl, ht2, hc2⟩ := hs2 [C] (fun b hb => by rw [List.mem_singleton.1 hb]; exact hC2)
  have b2 := e2.to hb2
  have f2 := g2.trans (hb2.mono g2.size)
  have o2t := ht2.one
  have o2c := hc2.one
  have I2 := Lib.hid (info_co (vt := vt2) (vc := vc2) (c := (hallC 100 [one_ 2])) rfl rfl)
  have L2 : Hid ((coC vt2 vc2 (hallC 100 [one_ 2])).length = 43) := Lib.hid (coC_len (c := (hallC 100 [one_ 2])) rfl rfl)
  have X2 : CoX [C] w4 (.agg (coC vt2 vc2 (hallC 100 [one_ 2])).toArray) (hallC 100 [one_ 2]) := ⟨vt2, vc2, rfl, ht2, hc2⟩
  clear hs2 ht2 hc2 hb2
  clear e2 g2 Z1 s2
  obtain ⟨c3, hc3e⟩ : ∃ c, saidC (hallC 100 [one_ 2]) 3 1 (one_ 4) = c := ⟨_, rfl⟩
  have HC3 := Lib.hid hc3e
  have HP3 : Hid (c3.pre.length = 32 ∧ c3.bank.length = 8) := (show _ ∧ _ by rw [← hc3e]; exact ⟨rfl, rfl⟩)
  have HO3 : Hid c3.ok := (show c3.ok from by
    rw [← hc3e]
    exact ⟨rfl, (by intro x hx; rw [List.mem_singleton.1 hx]; rfl), (by decide), rfl, (by intro x hx; rw [List.mem_singleton.1 hx]; exact ⟨rfl, (by intro s hs; cases hs), Nat.zero_le _⟩), (by decide)⟩)
  clear hc3e
  go_wp2_with (first
    | (refine wpl_store_fld (by rfl) _ _ _ rfl C 0 _ _ (coC vt2 vc2 (hallC 100 [one_ 2])) rfl _ rfl rfl b2 (by rw [L1.out, L2.out]; exact Nat.le_refl _) I2.out (coC_one o2t o2c) ?_
       intro w5 d2 u2
       rw [put_all _ _ (by rw [L1.out, L2.out])] at d2)
    | (refine wpl_load_fld (by rfl) _ _ rfl C 0 rfl (coC vt2 vc2 (hallC 100 [one_ 2])) _ d2.range Try.underlying30 rfl I2.out ?_)
    | (refine wpl_build (by rfl) _ _ rfl _ (by exact builtC4) ?_))
  have Y2 := cell_next X2 u2
  have g2 := f2.trans (below_but u2 hwC f2.size)
  clear X2 f2 b2 u2
  refine (sayC_any _ (hallC 100 [one_ 2]) (hallC_ok 100 [one_ 2] (by intro x hx; rw [List.mem_singleton.1 hx]; rfl) (by decide)) 3 1 (one_ 4) rfl w5 (by decide) Y2 (c3, 0) (.inr (.inr ⟨⟨by decide, by decide⟩, by decide, by decide, by decide, by decide, by rw [← HC3.out]; rfl⟩))).mono ?_
  rintro en w6 ⟨v3, rfl, hs3, hb3⟩
  have hC3 := d2.lt
  obtain ⟨vt3, vc3, rfl, ht3, hc3⟩ := hs3 [C] (fun b hb => by rw [List.mem_singleton.1 hb]; exact hC3)
  have b3 := d2.to hb3
  have f3 := g2.trans (hb3.mono g2.size)
  have o3t := ht3.one
  have o3c := hc3.one
  have I3 := Lib.hid (info_co (vt := vt3) (vc := vc3) (c := c3) HP3.out.1 HP3.out.2)
  have L3 : Hid ((coC vt3 vc3 c3).length = 43) := Lib.hid (coC_len (c := c3) HP3.out.1 HP3.out.2)
  have X3 : CoX [C] w6 (.agg (coC vt3 vc3 c3).toArray) c3 := ⟨vt3, vc3, rfl, ht3, hc3⟩
  clear hs3 ht3 hc3 hb3
  clear d2 g2 Y2
  obtain ⟨c4, hc4e⟩ : ∃ c, next0 c3 ⟨3, 1, 0, 1, one_ 4, []⟩ 3 4 = c := ⟨_, rfl⟩
  have HC4 := Lib.hid hc4e
  have HE4 : Hid (c4 = ⟨4, one_ 1, [one_ 2], [100, 100, 100, 100, 100, 100, 100, 100], [⟨3, 1, 0, 2, one_ 4, []⟩]⟩) := (show c4 = _ from by rw [← hc4e, ← HC3.out]; rfl)
  have HP4 : Hid (c4.pre.length = 32 ∧ c4.bank.length = 8) := (show _ ∧ _ by rw [HE4.out]; exact ⟨rfl, rfl⟩)
  clear hc4e
  go_wp2_with (first
    | (refine wpl_store_fld (by rfl) _ _ _ rfl C 0 _ _ (coC vt3 vc3 c3) rfl _ rfl rfl b3 (by rw [L2.out, L3.out]; exact Nat.le_refl _) I3.out (coC_one o3t o3c) ?_
       intro w7 d3 u3
       rw [put_all _ _ (by rw [L2.out, L3.out])] at d3)
    | (refine wpl_load_fld (by rfl) _ _ rfl C 0 rfl (coC vt3 vc3 c3) _ d3.range Try.underlying30 rfl I3.out ?_))
  have Y3 := cell_next X3 u3
  have g3 := f3.trans (below_but u3 hwC f3.size)
  clear X3 f3 b3 u3
  refine (next0_any _ c3 HO3.out ⟨3, 1, 0, 1, one_ 4, []⟩ (by rw [← HC3.out]; rfl) rfl 4 (by decide) (by rw [← HC3.out]; decide) (by decide) 3 (by decide) rfl (by rw [← HC3.out]; decide) w7 Y3).mono ?_
  rintro en w8 ⟨v4, rfl, hs4, hb4⟩
  rw [HC4.out] at hs4
  have hC4 := d3.lt
  obtain ⟨vt4, vc4, rfl, ht4, hc4⟩ := hs4 [C] (fun b hb => by rw [List.mem_singleton.1 hb]; exact hC4)
  have b4 := d3.to hb4
  have f4 := g3.trans (hb4.mono g3.size)
  have o4t := ht4.one
  have o4c := hc4.one
  have I4 := Lib.hid (info_co (vt := vt4) (vc := vc4) (c := c4) HP4.out.1 HP4.out.2)
  have L4 : Hid ((coC vt4 vc4 c4).length = 43) := Lib.hid (coC_len (c := c4) HP4.out.1 HP4.out.2)
  clear hs4 hb4 ht4
  clear d3 g3 Y3
  have hcl4 : c4.claims = [⟨3, 1, 0, 2, one_ 4, []⟩] := by rw [HE4.out]
  obtain ⟨Ac, nc, cc, l, rfl, slc, hml, hln, _, hav, _⟩ := hc4
  rw [hcl4] at hml
  obtain ⟨us, rfl⟩ := one_snd hml
  obtain rfl : nc = 1 := by simpa using hln.symm
  obtain ⟨bc, oc, rfl, hltc⟩ := slc.some_ (by omega)
  have hbC : bc ≠ C := fun e => hav bc rfl (by rw [e]; simp)
  have HB4 : Hid (c4.bank.getD 3 0 = 100) := (show _ = _ by rw [HE4.out]; rfl)
  have HSL := Lib.hid slc
  clear hml hln hav slc hcl4
  go_wp2_with (first
    | (refine wpl_store_fld (by rfl) _ _ _ rfl C 0 _ _ (coC vt4 (.slice (some ⟨bc, oc, none⟩) 1 cc) c4) rfl _ rfl rfl b4 (by rw [L3.out, L4.out]; exact Nat.le_refl _) I4.out (coC_one o4t o4c) ?_
       intro w9 d4 u4
       rw [put_all _ _ (by rw [L3.out, L4.out])] at d4
       have k42 : w9.cell? ⟨C, 42, none⟩ = some (.slice (some ⟨bc, oc, none⟩) 1 cc) := by rw [d4.cell]; exact co_claims HP4.out.1 HP4.out.2
       have k37 : w9.cell? ⟨C, 37, none⟩ = some (.int .i64 100) := by rw [d4.cell, ← HB4.out]; exact co_bank HP4.out.1 HP4.out.2 3 (by decide)
       have k3 : w9.cell? ⟨bc, oc + 3, none⟩ = some (.int .i64 2) := (HSL.out.but u4 (by intro e; injection e with e; exact hbC e)).cell rfl))
  go_ret
  exact ⟨rfl, f4.trans (below_but u4 hwC f4.size)⟩
end Go.Proofs.Ytdopgooglicaiaa
/- Walks: two games held against each other: slices.Equal at sums, game.Same. -/
set_option linter.unusedSimpArgs false
set_option linter.unusedVariables false
namespace Go.Proofs.Ytdopgooglicaiaa
open Go.RowKit
set_option maxRecDepth 100000
theorem H8_at : ∀ (hs : List (List UInt8)) (_ : ∀ h ∈ hs, h.length = 32) (i : Nat) (h : List UInt8) (_ : hs[i]? = some h) (j : Nat) (v : Value) (_ : (B8 h)[j]? = some v), (H8 hs)[i * 32 + j]? = some v
  | [], _, i, h, hi, j, v, hv => by simp at hi
  | a :: hs, hl, 0, h, hi, j, v, hv => by
    simp at hi
    subst hi
    have hj : j < (B8 a).length := (List.getElem?_eq_some_iff.1 hv).1
    rw [H8, List.flatMap_cons, Nat.zero_mul, Nat.zero_add, List.getElem?_append_left hj]
    exact hv
  | a :: hs, hl, i + 1, h, hi, j, v, hv => by
    have ih := H8_at hs (fun h hh => hl h (by simp [hh])) i h (by simpa using hi) j v hv
    have ha : (B8 a).length = 32 := by rw [B8_len]; exact hl a (by simp)
    rw [H8, List.flatMap_cons, List.getElem?_append_right (by omega), ha, show (i + 1) * 32 + j - 32 = i * 32 + j from by omega]
    exact ih
theorem Sl.sum_ {w : World} {b o n : Nat} {hs : List (List UInt8)} (h : Sl w 32 (some ⟨b, o, none⟩) n (H8 hs)) (hl : ∀ h ∈ hs, h.length = 32) (i : Nat) (x : List UInt8) (hi : hs[i]? = some x) : w.rangeAt b (o + i * 32) (B8 x) := fun j v hv => by
  rw [Nat.add_assoc]
  exact h.cell (H8_at hs hl i x hi j v hv)
theorem H8_len_ (hs : List (List UInt8)) (h : ∀ x ∈ hs, x.length = 32) : (H8 hs).length = hs.length * 32 := by
  induction hs with
  | nil => rfl
  | cons a hs ih =>
    have := ih (fun x hx => h x (by simp [hx]))
    have h1 := h a (by simp)
    simp only [H8, List.flatMap_cons, List.length_append, B8_len, List.length_cons] at this ⊢
    omega
set_option maxRecDepth 100000 in
set_option maxHeartbeats 1000000 in
theorem equal_H (A : Option Addr) (n c : Nat) (hs : List (List UInt8)) (A2 : Option Addr) (n2 c2 : Nat) (hs2 : List (List UInt8)) (w : World) (h : Sl w 32 A n (H8 hs)) (hl : ∀ x ∈ hs, x.length = 32) (h2 : Sl w 32 A2 n2 (H8 hs2)) (hl2 : ∀ x ∈ hs2, x.length = 32) (hn : n ≤ 4194304) (hn2 : n2 ≤ 4194304) :
    Calls Try.prog 41 #[.slice A n c, .slice A2 n2 c2] w (RB (decide (hs = hs2)) w) := by
  have ln : hs.length = n := by have := h.len; rw [H8_len_ hs hl] at this; omega
  have ln2 : hs2.length = n2 := by have := h2.len; rw [H8_len_ hs2 hl2] at this; omega
  have LN := Lib.hid ln
  have LN2 := Lib.hid ln2
  have HL := Lib.hid hl
  have HL2 := Lib.hid hl2
  clear ln ln2 hl hl2
  by_cases hnn : n = n2
  · subst hnn
    go_enter Try.func41, Try.ntmps41
    go_wp2_with fail
    go_loopw [13] (fun i wr => ∃ k : Nat, i = .int .i64 k ∧ k ≤ n ∧ (hs.take k = hs2.take k) ∧ Below w.heap.size w wr) (fun i _ => n - (intOf i).toNat)
    case atStart => exact ⟨0, rfl, Nat.zero_le _, rfl, Below.refl _ _⟩
    case round =>
      obtain ⟨k, rfl, hk, hpre, hb⟩ := hrel
      have HP := Lib.hid hpre
      clear hpre
      by_cases hlt : k < n
      · have hsw := h.to hb
        have h2w := h2.to hb
        obtain ⟨b1, o1, rfl, hb1⟩ := hsw.some_ (by omega)
        obtain ⟨b2, o2, rfl, hb2⟩ := h2w.some_ (by omega)
        obtain ⟨x, hx⟩ : ∃ x, hs[k]? = some x := ⟨_, List.getElem?_eq_getElem (by rw [LN.out]; exact hlt)⟩
        obtain ⟨y, hy⟩ : ∃ y, hs2[k]? = some y := ⟨_, List.getElem?_eq_getElem (by rw [LN2.out]; exact hlt)⟩
        have xl := HL.out x (List.mem_of_getElem? hx)
        have yl := HL2.out y (List.mem_of_getElem? hy)
        have rx : ∀ w', RBel wr.drew w' → w'.rangeAt b1 (o1 + k * 32) (B8 x) := fun w' hw' => (hsw.drew.to hw').sum_ HL.out k x hx
        have ry : ∀ w', RBel wr.drew w' → w'.rangeAt b2 (o2 + k * 32) (B8 y) := fun w' hw' => (h2w.drew.to hw').sum_ HL2.out k y hy
        have eh := eq_hash x y xl yl
        have IX := info_hash xl
        have IY := info_hash yl
        have HX := Lib.hid hx
        have HY := Lib.hid hy
        have fin := hb.drew
        have t1 : (k : Int) < (n : Int) := by omega
        clear hx hy hsw h2w
        by_cases hxy : x = y
        · rw [show decide (x = y) = true from by simp [hxy]] at eh
          have HXY := Lib.hid hxy
          clear xl yl hxy
          go_wp2_with fail
          refine wp_region_C [(0, true), (1, true), (2, true), (3, true), (4, true), (5, false), (6, false), (7, false), (8, false)] RBel (by kernel_rfl) (by kernel_rfl) (by kernel_rfl) (by decide) RBel.refl_ RBel.trans_ (by intro d v c a w h; cases d <;> exact h) ?_
          generalize wr.drew = wd at *
          repeat (first | (refine wpC_quiet (v := ?_) rfl (by rfl) ?_ ?_; rotate_left; (· (intro w' hw'; go_simp; try with_reducible rfl)); simp only [Act.put, List.setIfInBounds_toArray, List.set_cons_zero, List.set_cons_succ]) | (refine wpC_val (v := ?_) (RBel.refl_) rfl (by rfl) ?_ ?_; rotate_left; (· (go_simp; try with_reducible rfl)); simp only [Act.put, List.setIfInBounds_toArray, List.set_cons_zero, List.set_cons_succ]) | (refine wpC_skip rfl (by rfl) ?_; simp only [Act.put, List.setIfInBounds_toArray, List.set_cons_zero, List.set_cons_succ]) | (refine wpC_skip' (RBel.refl_) rfl (by rfl) ?_; simp only [Act.put, List.setIfInBounds_toArray, List.set_cons_zero, List.set_cons_succ]))
          refine wpC_load rfl (by rfl) _ _ rfl b1 (o1 + k * 32) rfl (B8 x) _ rx Try.underlying25 rfl IX ?_
          simp only [Act.put, List.setIfInBounds_toArray, List.set_cons_zero, List.set_cons_succ]
          repeat (first | (refine wpC_quiet (v := ?_) rfl (by rfl) ?_ ?_; rotate_left; (· (intro w' hw'; go_simp; try with_reducible rfl)); simp only [Act.put, List.setIfInBounds_toArray, List.set_cons_zero, List.set_cons_succ]) | (refine wpC_val (v := ?_) (RBel.refl_) rfl (by rfl) ?_ ?_; rotate_left; (· (go_simp; try with_reducible rfl)); simp only [Act.put, List.setIfInBounds_toArray, List.set_cons_zero, List.set_cons_succ]) | (refine wpC_skip rfl (by rfl) ?_; simp only [Act.put, List.setIfInBounds_toArray, List.set_cons_zero, List.set_cons_succ]) | (refine wpC_skip' (RBel.refl_) rfl (by rfl) ?_; simp only [Act.put, List.setIfInBounds_toArray, List.set_cons_zero, List.set_cons_succ]))
          refine wpC_load_f RBel.refl_ rfl (by rfl) _ _ rfl b2 (o2 + k * 32) rfl (B8 y) _ (ry wd (RBel.refl_ wd)) Try.underlying25 rfl IY ?_
          simp only [Act.put, List.setIfInBounds_toArray, List.set_cons_zero, List.set_cons_succ]
          clear rx ry
          repeat (first | (refine wpC_quiet (v := ?_) rfl (by rfl) ?_ ?_; rotate_left; (· (intro w' hw'; go_simp; try with_reducible rfl)); simp only [Act.put, List.setIfInBounds_toArray, List.set_cons_zero, List.set_cons_succ]) | (refine wpC_val (v := ?_) (RBel.refl_) rfl (by rfl) ?_ ?_; rotate_left; (· (go_simp; try with_reducible rfl)); simp only [Act.put, List.setIfInBounds_toArray, List.set_cons_zero, List.set_cons_succ]) | (refine wpC_skip rfl (by rfl) ?_; simp only [Act.put, List.setIfInBounds_toArray, List.set_cons_zero, List.set_cons_succ]) | (refine wpC_skip' (RBel.refl_) rfl (by rfl) ?_; simp only [Act.put, List.setIfInBounds_toArray, List.set_cons_zero, List.set_cons_succ]))
          refine wpC_nil ?_
          clear eh
          have hnext : hs.take (k + 1) = hs2.take (k + 1) := by rw [List.take_add_one, List.take_add_one, HX.out, HY.out, HXY.out, HP.out]
          have HNX := Lib.hid hnext
          clear hnext
          go_wp2_with fail
          go_roundw
          case rel => exact ⟨k + 1, by go_num, by omega, HNX.out, fin⟩
          case measure => simp [intOf]; omega
        · rw [show decide (x = y) = false from by simp [hxy]] at eh
          have hne : hs ≠ hs2 := fun he => hxy (by have := HX.out; rw [he, HY.out] at this; injection this with this; exact this.symm)
          have HNE := Lib.hid hne
          clear hne xl yl
          go_wp2_with fail
          refine wp_region_C [(0, true), (1, true), (2, true), (3, true), (4, true), (5, false), (6, false), (7, false), (8, false)] RBel (by kernel_rfl) (by kernel_rfl) (by kernel_rfl) (by decide) RBel.refl_ RBel.trans_ (by intro d v c a w h; cases d <;> exact h) ?_
          generalize wr.drew = wd at *
          repeat (first | (refine wpC_quiet (v := ?_) rfl (by rfl) ?_ ?_; rotate_left; (· (intro w' hw'; go_simp; try with_reducible rfl)); simp only [Act.put, List.setIfInBounds_toArray, List.set_cons_zero, List.set_cons_succ]) | (refine wpC_val (v := ?_) (RBel.refl_) rfl (by rfl) ?_ ?_; rotate_left; (· (go_simp; try with_reducible rfl)); simp only [Act.put, List.setIfInBounds_toArray, List.set_cons_zero, List.set_cons_succ]) | (refine wpC_skip rfl (by rfl) ?_; simp only [Act.put, List.setIfInBounds_toArray, List.set_cons_zero, List.set_cons_succ]) | (refine wpC_skip' (RBel.refl_) rfl (by rfl) ?_; simp only [Act.put, List.setIfInBounds_toArray, List.set_cons_zero, List.set_cons_succ]))
          refine wpC_load rfl (by rfl) _ _ rfl b1 (o1 + k * 32) rfl (B8 x) _ rx Try.underlying25 rfl IX ?_
          simp only [Act.put, List.setIfInBounds_toArray, List.set_cons_zero, List.set_cons_succ]
          repeat (first | (refine wpC_quiet (v := ?_) rfl (by rfl) ?_ ?_; rotate_left; (· (intro w' hw'; go_simp; try with_reducible rfl)); simp only [Act.put, List.setIfInBounds_toArray, List.set_cons_zero, List.set_cons_succ]) | (refine wpC_val (v := ?_) (RBel.refl_) rfl (by rfl) ?_ ?_; rotate_left; (· (go_simp; try with_reducible rfl)); simp only [Act.put, List.setIfInBounds_toArray, List.set_cons_zero, List.set_cons_succ]) | (refine wpC_skip rfl (by rfl) ?_; simp only [Act.put, List.setIfInBounds_toArray, List.set_cons_zero, List.set_cons_succ]) | (refine wpC_skip' (RBel.refl_) rfl (by rfl) ?_; simp only [Act.put, List.setIfInBounds_toArray, List.set_cons_zero, List.set_cons_succ]))
          refine wpC_load_f RBel.refl_ rfl (by rfl) _ _ rfl b2 (o2 + k * 32) rfl (B8 y) _ (ry wd (RBel.refl_ wd)) Try.underlying25 rfl IY ?_
          simp only [Act.put, List.setIfInBounds_toArray, List.set_cons_zero, List.set_cons_succ]
          clear rx ry
          repeat (first | (refine wpC_quiet (v := ?_) rfl (by rfl) ?_ ?_; rotate_left; (· (intro w' hw'; go_simp; try with_reducible rfl)); simp only [Act.put, List.setIfInBounds_toArray, List.set_cons_zero, List.set_cons_succ]) | (refine wpC_val (v := ?_) (RBel.refl_) rfl (by rfl) ?_ ?_; rotate_left; (· (go_simp; try with_reducible rfl)); simp only [Act.put, List.setIfInBounds_toArray, List.set_cons_zero, List.set_cons_succ]) | (refine wpC_skip rfl (by rfl) ?_; simp only [Act.put, List.setIfInBounds_toArray, List.set_cons_zero, List.set_cons_succ]) | (refine wpC_skip' (RBel.refl_) rfl (by rfl) ?_; simp only [Act.put, List.setIfInBounds_toArray, List.set_cons_zero, List.set_cons_succ]))
          refine wpC_nil ?_
          clear eh
          go_wp2_with fail
          go_ret
          exact ⟨(show Ending.returned (.bool false) = _ from by rw [decide_eq_false HNE.out]), fin⟩
      · obtain rfl : n = k := by omega
        have e1 : hs.take n = hs := List.take_of_length_le (by rw [LN.out]; exact Nat.le_refl _)
        have e2 : hs2.take n = hs2 := List.take_of_length_le (by rw [LN2.out]; exact Nat.le_refl _)
        have he : hs = hs2 := by rw [← e1, ← e2]; exact HP.out
        have HE := Lib.hid he
        clear e1 e2 he
        go_wp2_with fail
        go_ret
        exact ⟨(show Ending.returned (.bool true) = _ from by rw [decide_eq_true HE.out]), hb⟩
  · have hne : hs ≠ hs2 := fun he => hnn (by rw [← LN.out, ← LN2.out, he])
    rw [show decide (hs = hs2) = false from by simp [hne]]
    have t1 : ((n : Int) != (n2 : Int)) = true := by simp; omega
    clear hne
    go_enter Try.func41, Try.ntmps41
    go_wp2_with fail
    go_ret
    exact ⟨rfl, Below.refl _ _⟩
def numC (d : GD) : List Value := [.int .i64 d.lo, .int .i64 d.hi, .int .i64 d.turn, .int .i64 d.moves, .int .i64 d.limit, .int .i64 d.cl, .int .i64 d.ref, .bool d.won]
def rootC (d : GD) : List Value := B8 d.rlo ++ B8 d.rhi ++ B8 d.mid
def numEq (a b : GD) : Prop := a.lo = b.lo ∧ a.hi = b.hi ∧ a.turn = b.turn ∧ a.moves = b.moves ∧ a.limit = b.limit ∧ a.cl = b.cl ∧ a.ref = b.ref ∧ a.won = b.won
def rootEq (a b : GD) : Prop := a.rlo = b.rlo ∧ a.rhi = b.rhi ∧ a.mid = b.mid
instance (a b : GD) : Decidable (numEq a b) := by unfold numEq; infer_instance
instance (a b : GD) : Decidable (rootEq a b) := by unfold rootEq; infer_instance
theorem gd_eq (a b : GD) : a = b ↔ numEq a b ∧ rootEq a b := by
  obtain ⟨a1, a2, a3, a4, a5, a6, a7, a8, a9, a10, a11⟩ := a
  obtain ⟨b1, b2, b3, b4, b5, b6, b7, b8, b9, b10, b11⟩ := b
  simp only [GD.mk.injEq, numEq, rootEq]
  constructor
  · rintro ⟨rfl, rfl, rfl, rfl, rfl, rfl, rfl, rfl, rfl, rfl, rfl⟩
    simp
  · rintro ⟨⟨rfl, rfl, rfl, rfl, rfl, rfl, rfl, rfl⟩, rfl, rfl, rfl⟩
    simp
theorem plain3 : Try.prog.plainKey 3 = true := by kernel_rfl
theorem plain4 : Try.prog.plainKey 4 = true := by kernel_rfl
set_option maxHeartbeats 4000000 in
theorem eq_numbers (a b : GD) (w : World) : (Op.equalIn 10000 120 (.agg (numC a).toArray) (.agg (numC b).toArray)).run Try.prog w = .ok (decide (numEq a b)) w := by
  rw [run_equalIn_struct w 9999 _ _ _ (by kernel_rfl) Try.stoodInHeld120]
  simp only [Program.fieldsOf, Try.underlying120]
  have I : ∀ x y : Int, (Op.equalIn 9999 3 (.int .i64 x) (.int .i64 y)).run Try.prog w = .ok (x == y) w := fun x y => run_equalIn_int w 9998 _ .i64 .i64 x y Try.underlying3
  have Bo : ∀ x y : Bool, (Op.equalIn 9999 4 (.bool x) (.bool y)).run Try.prog w = .ok (x == y) w := fun x y => run_equalIn_bool' w 9998 _ x y Try.underlying4
  unfold numEq
  rw [eqFields_step (by decide) (run_part_plain w plain3 rfl) (run_part_plain w plain3 rfl) (I a.lo b.lo)]
  rw [eqFields_step (by decide) (run_part_plain w plain3 rfl) (run_part_plain w plain3 rfl) (I a.hi b.hi)]
  rw [eqFields_step (by decide) (run_part_plain w plain3 rfl) (run_part_plain w plain3 rfl) (I a.turn b.turn)]
  rw [eqFields_step (by decide) (run_part_plain w plain3 rfl) (run_part_plain w plain3 rfl) (I a.moves b.moves)]
  rw [eqFields_step (by decide) (run_part_plain w plain3 rfl) (run_part_plain w plain3 rfl) (I a.limit b.limit)]
  rw [eqFields_step (by decide) (run_part_plain w plain3 rfl) (run_part_plain w plain3 rfl) (I a.cl b.cl)]
  rw [eqFields_step (by decide) (run_part_plain w plain3 rfl) (run_part_plain w plain3 rfl) (I a.ref b.ref)]
  rw [eqFields_step (by decide) (run_part_plain w plain4 rfl) (run_part_plain w plain4 rfl) (Bo a.won b.won)]
  rw [eqFields_nil]
  by_cases h1 : a.lo = b.lo
  · by_cases h2 : a.hi = b.hi
    · by_cases h3 : a.turn = b.turn
      · by_cases h4 : a.moves = b.moves
        · by_cases h5 : a.limit = b.limit
          · by_cases h6 : a.cl = b.cl
            · by_cases h7 : a.ref = b.ref
              · by_cases h8 : a.won = b.won
                · simp [h1, h2, h3, h4, h5, h6, h7, h8]
                · simp [h1, h2, h3, h4, h5, h6, h7, h8]
              · simp [h1, h2, h3, h4, h5, h6, h7]
            · simp [h1, h2, h3, h4, h5, h6]
          · simp [h1, h2, h3, h4, h5]
        · simp [h1, h2, h3, h4]
      · simp [h1, h2, h3]
    · simp [h1, h2]
  · simp [h1]
theorem ext_roots (d : GD) (h : GLen d) : (rootC d).toArray.extract 0 (0 + 32) = (B8 d.rlo).toArray ∧ (rootC d).toArray.extract 32 (32 + 32) = (B8 d.rhi).toArray ∧ (rootC d).toArray.extract 64 (64 + 32) = (B8 d.mid).toArray := by
  unfold rootC
  have l1 : (B8 d.rlo).length = 32 := by rw [B8_len, h.rlo]
  have l2 : (B8 d.rhi).length = 32 := by rw [B8_len, h.rhi]
  have l3 : (B8 d.mid).length = 32 := by rw [B8_len, h.mid]
  refine ⟨?_, ?_, ?_⟩
  · simp [l1]
  · have h2 := ext_mid (B8 d.rlo) (B8 d.rhi) (B8 d.mid)
    rw [l1, l2] at h2
    exact h2
  · have h3 := ext_mid (B8 d.rlo ++ B8 d.rhi) (B8 d.mid) []
    rw [List.length_append, l1, l2, l3, List.append_nil] at h3
    exact h3
theorem eq_hash9 (a b : List UInt8) (ha : a.length = 32) (hb : b.length = 32) (w : World) : (Op.equalIn 9999 25 (.agg (B8 a).toArray) (.agg (B8 b).toArray)).run Try.prog w = .ok (decide (a = b)) w := by
  obtain ⟨i, hi⟩ := info_u8'
  exact eq_bytes Try.underlying25 Try.underlying5 hi (by kernel_rfl) 9997 a b ha hb w
theorem eq_roots (a b : GD) (ha : GLen a) (hb : GLen b) (w : World) : (Op.equalIn 10000 122 (.agg (rootC a).toArray) (.agg (rootC b).toArray)).run Try.prog w = .ok (decide (rootEq a b)) w := by
  rw [run_equalIn_struct w 9999 _ _ _ (by kernel_rfl) Try.stoodInHeld122]
  simp only [Program.fieldsOf, Try.underlying122]
  have pr := fun (cs : Array Value) (off : Nat) => run_part_row (P := Try.prog) (t := 25) (n := 32) Try.underlying25 rfl (by kernel_rfl) cs off w
  obtain ⟨x1, x2, x3⟩ := ext_roots a ha
  obtain ⟨y1, y2, y3⟩ := ext_roots b hb
  unfold rootEq
  rw [eqFields_step (by decide) (by rw [pr, x1]) (by rw [pr, y1]) (eq_hash9 a.rlo b.rlo ha.1 hb.1 w)]
  rw [eqFields_step (by decide) (by rw [pr, x2]) (by rw [pr, y2]) (eq_hash9 a.rhi b.rhi ha.2 hb.2 w)]
  rw [eqFields_step (by decide) (by rw [pr, x3]) (by rw [pr, y3]) (eq_hash9 a.mid b.mid ha.3 hb.3 w)]
  rw [eqFields_nil]
  by_cases h1 : a.rlo = b.rlo
  · by_cases h2 : a.rhi = b.rhi
    · by_cases h3 : a.mid = b.mid
      · simp [h1, h2, h3]
      · simp [h1, h2, h3]
    · simp [h1, h2]
  · simp [h1]
theorem built_roots (d : GD) (h : GLen d) : Try.prog.built 122 [(0, .agg (B8 d.rlo).toArray), (1, .agg (B8 d.rhi).toArray), (2, .agg (B8 d.mid).toArray)] = some (rootC d).toArray := by
  rw [built_struct (z := .agg (B8 zero32 ++ B8 zero32 ++ B8 zero32).toArray) (places := [(0, 32), (32, 32), (64, 32)]) (by kernel_rfl) Try.underlying122 (by kernel_rfl)]
  have l1 : (B8 d.rlo).length = 32 := by rw [B8_len, h.rlo]
  have l2 : (B8 d.rhi).length = 32 := by rw [B8_len, h.rhi]
  have l3 : (B8 d.mid).length = 32 := by rw [B8_len, h.mid]
  have lz : (B8 zero32).length = 32 := rfl
  show Instr.fill _ (B8 zero32 ++ B8 zero32 ++ B8 zero32).toArray _ = _
  rw [fill_cons _ _ (B8 d.rlo) 0 0 _ _ (by rw [l1]; rfl) rfl (by simp [l1, lz])]
  rw [show put_ (B8 zero32 ++ B8 zero32 ++ B8 zero32) 0 (B8 d.rlo) = B8 d.rlo ++ B8 zero32 ++ B8 zero32 from by
    have := put_mid [] (B8 zero32) (B8 zero32 ++ B8 zero32) (B8 d.rlo) (by rw [l1, lz])
    simpa using this]
  rw [fill_cons _ _ (B8 d.rhi) 1 32 _ _ (by rw [l2]; rfl) rfl (by simp [l1, l2, lz])]
  rw [show put_ (B8 d.rlo ++ B8 zero32 ++ B8 zero32) 32 (B8 d.rhi) = B8 d.rlo ++ B8 d.rhi ++ B8 zero32 from by
    have := put_mid (B8 d.rlo) (B8 zero32) (B8 zero32) (B8 d.rhi) (by rw [l2, lz])
    rw [l1] at this
    exact this]
  rw [fill_cons _ _ (B8 d.mid) 2 64 _ _ (by rw [l3]; rfl) rfl (by simp [l1, l2, l3, lz])]
  rw [show put_ (B8 d.rlo ++ B8 d.rhi ++ B8 zero32) 64 (B8 d.mid) = B8 d.rlo ++ B8 d.rhi ++ B8 d.mid from by
    have := put_mid (B8 d.rlo ++ B8 d.rhi) (B8 zero32) [] (B8 d.mid) (by rw [l3, lz])
    rw [List.length_append, l1, l2] at this
    simpa using this]
  rfl
end Go.Proofs.Ytdopgooglicaiaa
