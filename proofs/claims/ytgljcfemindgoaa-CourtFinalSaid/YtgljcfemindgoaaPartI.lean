/- The texts of this claim, part I: words, plain laws, walks. -/
import Derived.Test.YtgljcfemindgoaaPartH
import Derived.Test.YtgljcfemindgoaaPartG
/- The walk of court's expire, of a court of one claim that was sued. -/
set_option linter.unusedSimpArgs false
set_option linter.unusedVariables false
namespace Go.Proofs.Ytgljcfemindgoaa
open Go.RowKit
set_option maxRecDepth 100000
def expC1 (c : CO) (x : CL) (q : Nat) (s : SU) : CO × CL := if (expireD s.g c.now).2 = 0 then (layC c x q (layS s (expireD s.g c.now).1 s.hs), layX x q (layS s (expireD s.g c.now).1 s.hs)) else (c, x)
def expLoop : Nat → Nat → CO → CL → CO × CL
  | 0, _, c, x => (c, x)
  | f + 1, q, c, x => if x.st = 1 then match x.suits[q]? with
    | some s => expLoop f (q + 1) (expC1 c x q s).1 (expC1 c x q s).2
    | none => (c, x) else (c, x)
def expEnd (c : CO) (x : CL) : CO × CL := if x.st = 1 ∧ 3 < c.now - x.at_ ∧ openS x.suits 0 = -1 then ({ c with bank := addB c.bank x.by_.toNat 100, claims := [{ x with st := 2 }] }, { x with st := 2 }) else (c, x)
def expM (c : CO) (x : CL) : CO × CL := expEnd (expLoop x.suits.length 0 c x).1 (expLoop x.suits.length 0 c x).2
theorem expLoop_dead (f q : Nat) (c : CO) (x : CL) (h : x.st ≠ 1) : expLoop f q c x = (c, x) := by
  cases f with
  | zero => rfl
  | succ f => rw [expLoop, if_neg h]
/-- what stays, whatever expires -/
structure Kept (c : CO) (x : CL) (n q : Nat) (c' : CO) (x' : CL) : Prop where
  now : c'.now = c.now
  by_ : x'.by_ = x.by_
  at_ : x'.at_ = x.at_
  len : x'.suits.length = n
  sb : ∀ y ∈ x'.suits, 0 ≤ y.by_ ∧ y.by_ < 8
  bk : x'.st = 1 → BkB (1000000 + 100 * (q : Int)) c'.bank
theorem settleX_suits (x : CL) (s : SU) : (settleX x s).suits = x.suits ∧ (settleX x s).by_ = x.by_ ∧ (settleX x s).at_ = x.at_ := by
  unfold settleX
  split <;> exact ⟨rfl, rfl, rfl⟩
theorem layX_kept (x : CL) (q : Nat) (s : SU) : (layX x q s).suits = x.suits.set q s ∧ (layX x q s).by_ = x.by_ ∧ (layX x q s).at_ = x.at_ := by
  unfold layX
  split
  · exact settleX_suits _ _
  · exact ⟨rfl, rfl, rfl⟩
theorem layC_now (c : CO) (x : CL) (q : Nat) (s : SU) : (layC c x q s).now = c.now := by
  unfold layC settleC
  split
  · split <;> rfl
  · rfl
theorem Kept.step {c : CO} {x : CL} {n q : Nat} {c' : CO} {x' : CL} (h : Kept c x n q c' x') (hst : x'.st = 1) {s : SU} (hs : x'.suits[q]? = some s) (g : GD) (hs' : List (List UInt8)) (h8 : 0 ≤ x.by_ ∧ x.by_ < 8) : Kept c x n (q + 1) (layC c' x' q (layS s g hs')) (layX x' q (layS s g hs')) := by
  have e := layX_kept x' q (layS s g hs')
  refine ⟨(layC_now _ _ _ _).trans h.now, e.2.1.trans h.by_, e.2.2.trans h.at_, by rw [e.1, List.length_set]; exact h.len, fun y hy => ?_, fun h1 => ?_⟩
  · rw [e.1] at hy
    rcases List.mem_or_eq_of_mem_set hy with h2 | h2
    · exact h.sb y h2
    · rw [h2]
      exact h.sb s (List.mem_of_getElem? hs)
  · have hb := h.bk hst
    unfold layC
    unfold layX at h1
    by_cases ht : (layS s g hs').g.turn = 4
    · rw [if_pos ht] at h1 ⊢
      unfold settleX at h1
      unfold settleC
      by_cases hw : (layS s g hs').g.won = true
      · rw [if_pos hw]
        have hx : (layX0 x' q (layS s g hs')).by_.toNat < 8 := by
          show x'.by_.toNat < 8
          rw [h.by_]
          omega
        have := hb.add hx (z := 100) (by decide)
        exact this.up (by omega)
      · rw [if_neg hw] at h1
        exact absurd (show (3 : Int) = 1 from h1) (by decide)
    · rw [if_neg ht]
      exact hb.up (by omega)
theorem Kept.pass {c : CO} {x : CL} {n q : Nat} {c' : CO} {x' : CL} (h : Kept c x n q c' x') : Kept c x n (q + 1) c' x' := ⟨h.now, h.by_, h.at_, h.len, h.sb, fun h1 => (h.bk h1).up (by omega)⟩
theorem expireD_ok {d : GD} (hd : GLen d) (now : Int) : GLen (expireD d now).1 := by
  unfold expireD
  split
  · exact hd
  · split
    · exact hd
    · split
      · exact hd
      · exact ⟨hd.1, hd.2, hd.3⟩
set_option maxRecDepth 100000 in
set_option maxHeartbeats 4000000 in
theorem expireM_any {w : World} {P T CB SB cC cS : Nat} {rest srest : List Value} {l : List (Value × SU)} {c : CO} {x : CL} (h : OneM w P T CB SB cC cS rest srest l c x)
    (hne : ∀ y ∈ x.suits, y.hs ≠ []) (hby : 0 ≤ x.by_ ∧ x.by_ < 8) (hsb : ∀ y ∈ x.suits, 0 ≤ y.by_ ∧ y.by_ < 8) (hbk : BkB 1000000 c.bank) (hnow : 0 ≤ c.now ∧ c.now ≤ 1000000) (hat : 0 ≤ x.at_ ∧ x.at_ ≤ 1000000) :
    Calls Try.prog 37 #[.pointer (some ⟨P, 0, none⟩), .int .i64 0] w fun e w' => e = .returned (.tuple #[]) ∧ FrS [P, CB, SB] w w' ∧ ∃ l', OneM w' P T CB SB cC cS rest srest l' (expM c x).1 (expM c x).2 := by
  have hml := h.ml
  have hlen : l.length = x.suits.length := by rw [← hml, List.length_map]
  have hnl : l.length ≤ 4096 := by
    have := h.xok.n
    rw [← hml, List.length_map] at this
    exact this
  obtain ⟨n, hn⟩ : ∃ n, l.length = n := ⟨_, rfl⟩
  rw [hn] at hlen hnl
  have HK : Hid (Kept c x n 0 c x) := (show Kept c x n 0 c x from ⟨rfl, rfl, rfl, hlen.symm, hsb, fun _ => hbk.up (by omega)⟩)
  have HE : Hid (expM c x = expEnd (expLoop n 0 c x).1 (expLoop n 0 c x).2) := (show _ = _ by unfold expM; rw [← hlen])
  have HO := Lib.hid h
  have HBY := Lib.hid hby
  have k42 := h.k42
  have HLN := Lib.hid hn
  have k0' := h.c1
  obtain ⟨nw, hnw⟩ : ∃ nw, c.now = nw := ⟨_, rfl⟩
  obtain ⟨at0, hat0⟩ : ∃ a, x.at_ = a := ⟨_, rfl⟩
  rw [hnw] at hnow
  rw [hat0] at hat
  have HNW := Lib.hid hnw
  have HAT := Lib.hid hat0
  have HNE : Hid (∀ p ∈ l, p.2.hs ≠ []) := (show ∀ p ∈ l, p.2.hs ≠ [] from fun p hp => hne p.2 (mem_snd hml hp))
  clear h hml hlen hsb hbk hby hn hnw hat0 hne
  go_enter Try.func37, Try.ntmps37
  go_wp2_with fail
  go_loopw [5] (fun k wr => ∃ (q : Nat) (l' : List (Value × SU)) (c' : CO) (x' : CL), k = .int .i64 (q : Int) ∧ q ≤ n ∧ Hid (l'.length = n) ∧ Hid (expLoop (n - q) q c' x' = expLoop n 0 c x) ∧ Hid (OneM wr P T CB SB cC cS rest srest l' c' x') ∧ Hid (Kept c x n q c' x') ∧ Hid (∀ p ∈ l', p.2.hs ≠ []) ∧ FrS [P, CB, SB] w wr) (fun k _ => n - (intOf k).toNat)
  case atStart => exact ⟨0, l, c, x, rfl, Nat.zero_le _, HLN, (show _ = _ from rfl), HO, HK, HNE, FrS.refl_⟩
  case round =>
    clear HO k42 HNE HLN
    obtain ⟨q, l, c2, x2, rfl, hq, HLN, HR, HO, HK, HNE, ff⟩ := hrel
    have k36 := HO.out.cv
    rw [HLN.out] at k36
    have k3 := HO.out.cst
    obtain ⟨st, hst⟩ : ∃ st, x2.st = st := ⟨_, rfl⟩
    rw [hst] at k3
    have HST := Lib.hid hst
    clear hst
    by_cases hlt : q < n
    · have t1 : (q : Int) < (n : Int) := by omega
      by_cases h1 : st = 1
      · subst h1
        obtain ⟨s, hs⟩ : ∃ s, x2.suits[q]? = some s := ⟨_, List.getElem?_eq_getElem (by rw [HK.out.len]; exact hlt)⟩
        obtain ⟨u, hu⟩ := snd_get HO.out.ml hs
        have HSO : Hid s.ok := HO.out.sok (u, s) (List.mem_of_getElem? hu)
        obtain ⟨Ag, ng, cg, hue, slg, hng, _, _⟩ := HO.out.hx (u, s) (List.mem_of_getElem? hu)
        simp only [] at hue
        subst hue
        have hgp : 0 < ng := by rw [← hng]; exact List.length_pos_iff.2 (HNE.out (_, s) (List.mem_of_getElem? hu))
        have hgn : ng ≤ 4194304 := by rw [← hng]; exact HSO.out.n
        obtain ⟨⟨g', er⟩, hgr⟩ : ∃ r, expireD s.g nw = r := ⟨_, rfl⟩
        have HGR := Lib.hid hgr
        have HGL : Hid (GLen g') := (show GLen g' from by
          have := expireD_ok HSO.out.g nw
          rw [hgr] at this
          exact this)
        have HIG := Lib.hid (info_game (v := .slice Ag ng cg) HSO.out.g)
        have HNG := Lib.hid hng
        have HU := Lib.hid hu
        have HXS := Lib.hid hs
        have hnn : n - q = (n - (q + 1)) + 1 := by omega
        have HRS : Hid (expLoop (n - q) q c2 x2 = expLoop (n - (q + 1)) (q + 1) (expC1 c2 x2 q s).1 (expC1 c2 x2 q s).2) := (show _ = _ by
          rw [hnn, expLoop, if_pos HST.out, hs])
        have hcn : c2.now = nw := HK.out.now.trans HNW.out
        have HEX : Hid (er = 0 → expC1 c2 x2 q s = (layC c2 x2 q (layS s g' s.hs), layX x2 q (layS s g' s.hs))) := (show _ → _ from fun h0 => by
          unfold expC1
          rw [hcn, hgr, if_pos h0])
        have HEN : Hid (er ≠ 0 → expC1 c2 x2 q s = (c2, x2)) := (show _ → _ from fun h0 => by
          unfold expC1
          rw [hcn, hgr, if_neg h0])
        clear hgr hng hu hs hnn hcn
        go_upto_region 4 with fail
        refine wp_region_P (.take 0 (.take 1 (.take 2 (.take 3 (.take 4 (.take 5 (.take 6 (.take 7 (.take 8 (.take 9 (.take 10 (.take 11 (.two 12 (.take 13 (.take 14 (.take 15 (.one 16 (.one 17 (.take 18 .done)))))) 16 (.one 12 (.take 13 (.take 14 (.take 15 (.one 17 (.take 18 .done))))))))))))))))))) (Below wr.heap.size) (by kernel_rfl) (by kernel_rfl) (by kernel_rfl) (by decide +kernel) (Below.refl _) (fun _ _ _ => Below.trans) (by intro d v c a w h; first | (cases d <;> exact h) | exact absurd h.1 (by simp)) ?_
        have HOD := Lib.hid HO.out.drew
        have ffd : FrS [P, CB, SB] w wr.drew := ff.trans_ (FrS.of_below (Below.refl _ _).drew)
        have d36 : wr.drew.cell? ⟨CB, 36, none⟩ = some (.slice (some ⟨SB, 0, none⟩) n cS) := k36
        have slgd := slg.drew
        clear HO ff k36 k3 slg
        have hsz : wr.heap.size = wr.drew.heap.size := rfl
        rw [hsz]
        clear hsz
        generalize wr.drew = U0 at *
        have HO := HOD
        have ff := ffd
        have k36 := d36
        have slg := slgd
        clear HOD ffd d36 slgd
        have k0 : U0.cell? ⟨P, 0, none⟩ = some (.int .i64 nw) := by have := HO.out.k0; rw [HK.out.now, HNW.out] at this; exact this
        have rg := HO.out.sgame HU.out
        have hlP := HO.out.bp.lt
        have hlC := HO.out.bc.lt
        have hlS := HO.out.bs.lt
        first | (refine wpP_quiet (v := ?_) rfl (by rfl) ?_ ?_; rotate_left; (· (intro w' hw'; go_simp; try with_reducible rfl)); simp only [Act.put, List.setIfInBounds_toArray, List.set_cons_zero, List.set_cons_succ]) | (refine wpP_skip rfl (by rfl) ?_; simp only [Act.put, List.setIfInBounds_toArray, List.set_cons_zero, List.set_cons_succ])
        first | (refine wpP_quiet (v := ?_) rfl (by rfl) ?_ ?_; rotate_left; (· (intro w' hw'; go_simp; try with_reducible rfl)); simp only [Act.put, List.setIfInBounds_toArray, List.set_cons_zero, List.set_cons_succ]) | (refine wpP_skip rfl (by rfl) ?_; simp only [Act.put, List.setIfInBounds_toArray, List.set_cons_zero, List.set_cons_succ])
        first | (refine wpP_quiet (v := ?_) rfl (by rfl) ?_ ?_; rotate_left; (· (intro w' hw'; go_simp; try with_reducible rfl)); simp only [Act.put, List.setIfInBounds_toArray, List.set_cons_zero, List.set_cons_succ]) | (refine wpP_skip rfl (by rfl) ?_; simp only [Act.put, List.setIfInBounds_toArray, List.set_cons_zero, List.set_cons_succ])
        refine wpP_quiet (v := ?_) rfl (by rfl) ?_ ?_; rotate_left; (· (intro w' hw'; have q0 := (hw'.cell (p := ⟨CB, 36, none⟩) hlC).trans k36; go_simp; try with_reducible rfl)); simp only [Act.put, List.setIfInBounds_toArray, List.set_cons_zero, List.set_cons_succ]
        first | (refine wpP_quiet (v := ?_) rfl (by rfl) ?_ ?_; rotate_left; (· (intro w' hw'; go_simp; try with_reducible rfl)); simp only [Act.put, List.setIfInBounds_toArray, List.set_cons_zero, List.set_cons_succ]) | (refine wpP_skip rfl (by rfl) ?_; simp only [Act.put, List.setIfInBounds_toArray, List.set_cons_zero, List.set_cons_succ])
        first | (refine wpP_quiet (v := ?_) rfl (by rfl) ?_ ?_; rotate_left; (· (intro w' hw'; go_simp; try with_reducible rfl)); simp only [Act.put, List.setIfInBounds_toArray, List.set_cons_zero, List.set_cons_succ]) | (refine wpP_skip rfl (by rfl) ?_; simp only [Act.put, List.setIfInBounds_toArray, List.set_cons_zero, List.set_cons_succ])
        first | (refine wpP_quiet (v := ?_) rfl (by rfl) ?_ ?_; rotate_left; (· (intro w' hw'; go_simp; try with_reducible rfl)); simp only [Act.put, List.setIfInBounds_toArray, List.set_cons_zero, List.set_cons_succ]) | (refine wpP_skip rfl (by rfl) ?_; simp only [Act.put, List.setIfInBounds_toArray, List.set_cons_zero, List.set_cons_succ])
        refine wpP_load rfl (by rfl) _ _ rfl SB (q * 106 + 1) rfl (gcells (.slice Ag ng cg) s.g) _ (fun w' hw' => range_keep rg (hw'.block _ hlS)) Try.underlying47 rfl HIG.out ?_; simp only [Act.put, List.setIfInBounds_toArray, List.set_cons_zero, List.set_cons_succ]
        first | (refine wpP_quiet (v := ?_) rfl (by rfl) ?_ ?_; rotate_left; (· (intro w' hw'; go_simp; try with_reducible rfl)); simp only [Act.put, List.setIfInBounds_toArray, List.set_cons_zero, List.set_cons_succ]) | (refine wpP_skip rfl (by rfl) ?_; simp only [Act.put, List.setIfInBounds_toArray, List.set_cons_zero, List.set_cons_succ])
        first | (refine wpP_quiet (v := ?_) rfl (by rfl) ?_ ?_; rotate_left; (· (intro w' hw'; go_simp; try with_reducible rfl)); simp only [Act.put, List.setIfInBounds_toArray, List.set_cons_zero, List.set_cons_succ]) | (refine wpP_skip rfl (by rfl) ?_; simp only [Act.put, List.setIfInBounds_toArray, List.set_cons_zero, List.set_cons_succ])
        first | (refine wpP_quiet (v := ?_) rfl (by rfl) ?_ ?_; rotate_left; (· (intro w' hw'; go_simp; try with_reducible rfl)); simp only [Act.put, List.setIfInBounds_toArray, List.set_cons_zero, List.set_cons_succ]) | (refine wpP_skip rfl (by rfl) ?_; simp only [Act.put, List.setIfInBounds_toArray, List.set_cons_zero, List.set_cons_succ])
        refine wpP_quiet (v := ?_) rfl (by rfl) ?_ ?_; rotate_left; (· (intro w' hw'; have q0 := (hw'.cell (p := ⟨P, 0, none⟩) hlP).trans k0; go_simp; try with_reducible rfl)); simp only [Act.put, List.setIfInBounds_toArray, List.set_cons_zero, List.set_cons_succ]
        refine wpP_two ?_ ?_
        · refine wpP_loud rfl (by rfl) ?_
          intro K hK
          go_simp
          refine (show Calls _ _ _ _ (RGe U0 s.hs ng (g', er)) from by rw [← HGR.out]; exact expire_any Ag ng cg s.hs s.g HSO.out.g nw U0 slg hgn).mono ?_
          rintro e V1 ⟨A1, c1, rfl, sl1, hc1, fr1, le1⟩
          dsimp only
          obtain ⟨g1, p1, rfl, hg1⟩ := sl1.some_ hgp
          refine hK.out _ _ hc1 ?_
          clear hK K
          try simp only [Act.put, List.setIfInBounds_toArray, List.set_cons_zero, List.set_cons_succ]
          have hfr : U0.heap.size ≤ g1 := fr1 g1 rfl
          have LE1 := Lib.hid le1
          clear le1
          first | (refine wpP_quiet (v := ?_) rfl (by rfl) ?_ ?_; rotate_left; (· (intro w' hw'; go_simp; try with_reducible rfl)); simp only [Act.put, List.setIfInBounds_toArray, List.set_cons_zero, List.set_cons_succ]) | (refine wpP_skip rfl (by rfl) ?_; simp only [Act.put, List.setIfInBounds_toArray, List.set_cons_zero, List.set_cons_succ])
          first | (refine wpP_quiet (v := ?_) rfl (by rfl) ?_ ?_; rotate_left; (· (intro w' hw'; go_simp; try with_reducible rfl)); simp only [Act.put, List.setIfInBounds_toArray, List.set_cons_zero, List.set_cons_succ]) | (refine wpP_skip rfl (by rfl) ?_; simp only [Act.put, List.setIfInBounds_toArray, List.set_cons_zero, List.set_cons_succ])
          first | (refine wpP_quiet (v := ?_) rfl (by rfl) ?_ ?_; rotate_left; (· (intro w' hw'; go_simp; try with_reducible rfl)); simp only [Act.put, List.setIfInBounds_toArray, List.set_cons_zero, List.set_cons_succ]) | (refine wpP_skip rfl (by rfl) ?_; simp only [Act.put, List.setIfInBounds_toArray, List.set_cons_zero, List.set_cons_succ])
          refine wpP_one ?_
          refine wpP_loud rfl (by rfl) ?_
          intro K hK
          go_simp
          refine hK.out _ _ ((Below.refl _ _).alloc (by exact hc1.size) _) ?_
          clear hK K
          try simp only [Act.put, List.setIfInBounds_toArray, List.set_cons_zero, List.set_cons_succ]
          have bG : Blk (V1.alloc (.cells Try.zeroCells47 47)) V1.heap.size 47 Try.zeroCells47.toList := Blk.new V1 _ _
          have f2 : Below U0.heap.size U0 (V1.alloc (.cells Try.zeroCells47 47)) := hc1.alloc (by exact hc1.size) _
          have hVG : U0.heap.size ≤ V1.heap.size := hc1.size
          replace sl1 := sl1.alloc (.cells Try.zeroCells47 47)
          clear hc1 fr1
          generalize V1.alloc (.cells Try.zeroCells47 47) = V2 at *
          generalize hG : V1.heap.size = G at *
          have hgG : g1 ≠ G := by omega
          refine wpP_one ?_
          refine wpP_loud rfl (by rfl) ?_
          intro K hK
          refine wp_store_fld _ _ _ rfl G 0 _ _ (gcells (.slice (some ⟨g1, p1, none⟩) ng c1) g') rfl _ rfl rfl bG (by rw [gcells_len HGL.out, zero_len]; omega) (info_game HGL.out) (gcells_one rfl) ?_
          intro V3 bG3 bu3
          rw [put_all _ _ (by rw [gcells_len HGL.out, zero_len])] at bG3
          refine hK.out _ _ (below_but bu3 hVG f2.size) ?_
          clear hK K
          try simp only [Act.put, List.setIfInBounds_toArray, List.set_cons_zero, List.set_cons_succ]
          first | (refine wpP_quiet (v := ?_) rfl (by rfl) ?_ ?_; rotate_left; (· (intro w' hw'; go_simp; try with_reducible rfl)); simp only [Act.put, List.setIfInBounds_toArray, List.set_cons_zero, List.set_cons_succ]) | (refine wpP_skip rfl (by rfl) ?_; simp only [Act.put, List.setIfInBounds_toArray, List.set_cons_zero, List.set_cons_succ])
          refine wpP_done ?_
          clear rg k36 k0 slg
          have f3 := f2.trans (below_but bu3 hVG f2.size)
          have slg3 := sl1.but2 bu3 (fun b hb e => by injection e with e; have hb' : g1 = b := (by injection hb); omega)
          have HO3 := Lib.hid (HO.out.to f3)
          have ff3 := ff.trans_ (FrS.of_below f3)
          clear bu3 f3 sl1 f2 bG HO ff
          have HO := HO3
          have ff := ff3
          clear HO3 ff3
          by_cases he : er = 0
          · subst he
            have HIG3 := Lib.hid (info_game (v := (.slice (some ⟨g1, p1, none⟩) ng c1)) HGL.out)
            go_wp2_with (first
              | (refine wpl_load_fld (by rfl) _ _ rfl G 0 rfl (gcells (.slice (some ⟨g1, p1, none⟩) ng c1) g') _ bG3.range Try.underlying47 rfl HIG3.out ?_))
            refine (lay_any HO.out q _ s HU.out (.slice (some ⟨g1, p1, none⟩) ng c1) g' s.hs ⟨HGL.out, HSO.out.hs, HSO.out.n⟩ ⟨_, _, _, rfl, slg3, HNG.out, LE1.out, fun b hb hm => by
              have hb' : g1 = b := (by injection hb)
              simp at hm
              omega⟩ (by rw [HK.out.by_]; exact HBY.out) HK.out.sb ((HK.out.bk HST.out).up (by omega))).mono ?_
            rintro e w8 ⟨rfl, fr8, h8⟩
            have HO8 := Lib.hid h8
            have ff8 := ff.trans_ fr8
            clear HO ff fr8 h8 slg3 bG3
            go_wp2_with fail
            go_roundw
            case rel => exact ⟨q + 1, _, _, _, by go_num, hlt, (show _ = _ by rw [List.length_set]; exact HLN.out), (show _ = _ by rw [← HR.out, HRS.out, HEX.out (by first | rfl | trivial)]), HO8, (show Kept _ _ _ _ _ _ from HK.out.step HST.out HXS.out g' s.hs HBY.out), (show ∀ p ∈ _, _ from fun p hp => by
              rcases List.mem_or_eq_of_mem_set hp with h | h
              · exact HNE.out p h
              · rw [h]
                exact HNE.out (_, s) (List.mem_of_getElem? HU.out)), ff8⟩
            case measure => simp [intOf]; omega
          · have t4 : (er == 0) = false := by simpa using he
            have t5 : (er != 0) = true := by simpa using he
            have HER := Lib.hid he
            clear bG3 slg3 he
            go_wp2_with fail
            go_roundw
            case rel => exact ⟨q + 1, l, c2, x2, by go_num, hlt, HLN, (show _ = _ by rw [← HR.out, HRS.out, HEN.out HER.out]), HO, (show Kept _ _ _ _ _ _ from HK.out.pass), HNE, ff⟩
            case measure => simp [intOf]; omega
        · refine wpP_loud rfl (by rfl) ?_
          intro K hK
          go_simp
          refine hK.out _ _ ((Below.refl _ _).alloc (Nat.le_refl _) _) ?_
          clear hK K
          try simp only [Act.put, List.setIfInBounds_toArray, List.set_cons_zero, List.set_cons_succ]
          have bG : Blk (U0.alloc (.cells Try.zeroCells47 47)) U0.heap.size 47 Try.zeroCells47.toList := Blk.new U0 _ _
          have f2 : Below U0.heap.size U0 (U0.alloc (.cells Try.zeroCells47 47)) := (Below.refl _ _).alloc (Nat.le_refl _) _
          generalize U0.alloc (.cells Try.zeroCells47 47) = V2 at *
          obtain ⟨G, hG⟩ : ∃ G, U0.heap.size = G := ⟨_, rfl⟩
          rw [show Blk V2 U0.heap.size 47 Try.zeroCells47.toList = Blk V2 G 47 Try.zeroCells47.toList from by rw [hG]] at bG
          have hVG : U0.heap.size ≤ G := by omega
          have hGl := bG.lt
          refine wpP_one ?_
          refine wpP_loud rfl (by rfl) ?_
          intro K hK
          go_simp
          refine (show Calls _ _ _ _ (RGe V2 s.hs ng (g', er)) from by rw [← HGR.out]; exact expire_any Ag ng cg s.hs s.g HSO.out.g nw V2 (slg.to f2) hgn).mono ?_
          rintro e V1 ⟨A1, c1, rfl, sl1, hc1, fr1, le1⟩
          dsimp only
          obtain ⟨g1, p1, rfl, hg1⟩ := sl1.some_ hgp
          refine hK.out _ _ (hc1.mono f2.size) ?_
          clear hK K
          try simp only [Act.put, List.setIfInBounds_toArray, List.set_cons_zero, List.set_cons_succ]
          have hg2 : V2.heap.size ≤ g1 := fr1 g1 rfl
          have hfr : U0.heap.size ≤ g1 := Nat.le_trans f2.size hg2
          replace bG := bG.to hc1
          replace f2 := f2.trans (hc1.mono f2.size)
          have LE1 := Lib.hid le1
          have hgG : g1 ≠ G := by omega
          clear hc1 fr1 le1
          first | (refine wpP_quiet (v := ?_) rfl (by rfl) ?_ ?_; rotate_left; (· (intro w' hw'; go_simp; try with_reducible rfl)); simp only [Act.put, List.setIfInBounds_toArray, List.set_cons_zero, List.set_cons_succ]) | (refine wpP_skip rfl (by rfl) ?_; simp only [Act.put, List.setIfInBounds_toArray, List.set_cons_zero, List.set_cons_succ])
          first | (refine wpP_quiet (v := ?_) rfl (by rfl) ?_ ?_; rotate_left; (· (intro w' hw'; go_simp; try with_reducible rfl)); simp only [Act.put, List.setIfInBounds_toArray, List.set_cons_zero, List.set_cons_succ]) | (refine wpP_skip rfl (by rfl) ?_; simp only [Act.put, List.setIfInBounds_toArray, List.set_cons_zero, List.set_cons_succ])
          first | (refine wpP_quiet (v := ?_) rfl (by rfl) ?_ ?_; rotate_left; (· (intro w' hw'; go_simp; try with_reducible rfl)); simp only [Act.put, List.setIfInBounds_toArray, List.set_cons_zero, List.set_cons_succ]) | (refine wpP_skip rfl (by rfl) ?_; simp only [Act.put, List.setIfInBounds_toArray, List.set_cons_zero, List.set_cons_succ])
          refine wpP_one ?_
          refine wpP_loud rfl (by rfl) ?_
          intro K hK
          refine wp_store_fld _ _ _ rfl G 0 _ _ (gcells (.slice (some ⟨g1, p1, none⟩) ng c1) g') rfl _ rfl rfl bG (by rw [gcells_len HGL.out, zero_len]; omega) (info_game HGL.out) (gcells_one rfl) ?_
          intro V3 bG3 bu3
          rw [put_all _ _ (by rw [gcells_len HGL.out, zero_len])] at bG3
          refine hK.out _ _ (below_but bu3 hVG f2.size) ?_
          clear hK K
          try simp only [Act.put, List.setIfInBounds_toArray, List.set_cons_zero, List.set_cons_succ]
          first | (refine wpP_quiet (v := ?_) rfl (by rfl) ?_ ?_; rotate_left; (· (intro w' hw'; go_simp; try with_reducible rfl)); simp only [Act.put, List.setIfInBounds_toArray, List.set_cons_zero, List.set_cons_succ]) | (refine wpP_skip rfl (by rfl) ?_; simp only [Act.put, List.setIfInBounds_toArray, List.set_cons_zero, List.set_cons_succ])
          refine wpP_done ?_
          clear rg k36 k0 slg
          have f3 := f2.trans (below_but bu3 hVG f2.size)
          have slg3 := sl1.but2 bu3 (fun b hb e => by injection e with e; have hb' : g1 = b := (by injection hb); omega)
          have HO3 := Lib.hid (HO.out.to f3)
          have ff3 := ff.trans_ (FrS.of_below f3)
          clear bu3 f3 sl1 f2 bG HO ff
          have HO := HO3
          have ff := ff3
          clear HO3 ff3
          by_cases he : er = 0
          · subst he
            have HIG3 := Lib.hid (info_game (v := (.slice (some ⟨g1, p1, none⟩) ng c1)) HGL.out)
            go_wp2_with (first
              | (refine wpl_load_fld (by rfl) _ _ rfl G 0 rfl (gcells (.slice (some ⟨g1, p1, none⟩) ng c1) g') _ bG3.range Try.underlying47 rfl HIG3.out ?_))
            refine (lay_any HO.out q _ s HU.out (.slice (some ⟨g1, p1, none⟩) ng c1) g' s.hs ⟨HGL.out, HSO.out.hs, HSO.out.n⟩ ⟨_, _, _, rfl, slg3, HNG.out, LE1.out, fun b hb hm => by
              have hb' : g1 = b := (by injection hb)
              simp at hm
              omega⟩ (by rw [HK.out.by_]; exact HBY.out) HK.out.sb ((HK.out.bk HST.out).up (by omega))).mono ?_
            rintro e w8 ⟨rfl, fr8, h8⟩
            have HO8 := Lib.hid h8
            have ff8 := ff.trans_ fr8
            clear HO ff fr8 h8 slg3 bG3
            go_wp2_with fail
            go_roundw
            case rel => exact ⟨q + 1, _, _, _, by go_num, hlt, (show _ = _ by rw [List.length_set]; exact HLN.out), (show _ = _ by rw [← HR.out, HRS.out, HEX.out (by first | rfl | trivial)]), HO8, (show Kept _ _ _ _ _ _ from HK.out.step HST.out HXS.out g' s.hs HBY.out), (show ∀ p ∈ _, _ from fun p hp => by
              rcases List.mem_or_eq_of_mem_set hp with h | h
              · exact HNE.out p h
              · rw [h]
                exact HNE.out (_, s) (List.mem_of_getElem? HU.out)), ff8⟩
            case measure => simp [intOf]; omega
          · have t4 : (er == 0) = false := by simpa using he
            have t5 : (er != 0) = true := by simpa using he
            have HER := Lib.hid he
            clear bG3 slg3 he
            go_wp2_with fail
            go_roundw
            case rel => exact ⟨q + 1, l, c2, x2, by go_num, hlt, HLN, (show _ = _ by rw [← HR.out, HRS.out, HEN.out HER.out]), HO, (show Kept _ _ _ _ _ _ from HK.out.pass), HNE, ff⟩
            case measure => simp [intOf]; omega
      · have t2 : (st == 1) = false := by simpa using h1
        have t3 : (st != 1) = true := by simpa using h1
        have HF : Hid (expLoop n 0 c x = (c2, x2)) := (show _ = _ by rw [← HR.out]; exact expLoop_dead _ _ _ _ (by rw [HST.out]; exact h1))
        go_upto_region 7 with fail
        refine wp_region_P (.take 0 (.take 1 (.take 2 (.take 3 (.take 4 (.take 5 (.take 6 (.take 7 (.take 8 (.take 9 (.take 10 (.take 11 (.take 12 (.take 13 (.take 14 (.take 15 (.take 16 .done))))))))))))))))) ((fun a b => a = b)) (by kernel_rfl) (by kernel_rfl) (by kernel_rfl) (by decide +kernel) (fun _ => rfl) (fun _ _ _ h k => h.trans k) (by intro d v c a w h; first | (cases d <;> exact h) | exact absurd h.1 (by simp)) ?_
        have d3 : wr.drew.cell? ⟨CB, 3, none⟩ = some (.int .i64 st) := k3
        have d2 : wr.drew.cell? ⟨CB, 2, none⟩ = some (.int .i64 at0) := (by have := HO.out.cat; rw [HK.out.at_, HAT.out] at this; exact this)
        have d0 : wr.drew.cell? ⟨P, 0, none⟩ = some (.int .i64 nw) := (by have := HO.out.k0; rw [HK.out.now, HNW.out] at this; exact this)
        have HOD := Lib.hid HO.out.drew
        have ffd : FrS [P, CB, SB] w wr.drew := ff.trans_ (FrS.of_below (Below.refl _ _).drew)
        clear k36 k3 HO ff
        generalize wr.drew = V0 at *
        have HO := HOD
        have ff := ffd
        clear HOD ffd
        first | (refine wpP_quiet (v := ?_) rfl (by rfl) ?_ ?_; rotate_left; (· (intro w' hw'; subst hw'; go_simp; try with_reducible rfl)); simp only [Act.put, List.setIfInBounds_toArray, List.set_cons_zero, List.set_cons_succ]) | (refine wpP_skip rfl (by rfl) ?_; simp only [Act.put, List.setIfInBounds_toArray, List.set_cons_zero, List.set_cons_succ])
        first | (refine wpP_quiet (v := ?_) rfl (by rfl) ?_ ?_; rotate_left; (· (intro w' hw'; subst hw'; go_simp; try with_reducible rfl)); simp only [Act.put, List.setIfInBounds_toArray, List.set_cons_zero, List.set_cons_succ]) | (refine wpP_skip rfl (by rfl) ?_; simp only [Act.put, List.setIfInBounds_toArray, List.set_cons_zero, List.set_cons_succ])
        first | (refine wpP_quiet (v := ?_) rfl (by rfl) ?_ ?_; rotate_left; (· (intro w' hw'; subst hw'; go_simp; try with_reducible rfl)); simp only [Act.put, List.setIfInBounds_toArray, List.set_cons_zero, List.set_cons_succ]) | (refine wpP_skip rfl (by rfl) ?_; simp only [Act.put, List.setIfInBounds_toArray, List.set_cons_zero, List.set_cons_succ])
        first | (refine wpP_quiet (v := ?_) rfl (by rfl) ?_ ?_; rotate_left; (· (intro w' hw'; subst hw'; go_simp; try with_reducible rfl)); simp only [Act.put, List.setIfInBounds_toArray, List.set_cons_zero, List.set_cons_succ]) | (refine wpP_skip rfl (by rfl) ?_; simp only [Act.put, List.setIfInBounds_toArray, List.set_cons_zero, List.set_cons_succ])
        first | (refine wpP_quiet (v := ?_) rfl (by rfl) ?_ ?_; rotate_left; (· (intro w' hw'; subst hw'; go_simp; try with_reducible rfl)); simp only [Act.put, List.setIfInBounds_toArray, List.set_cons_zero, List.set_cons_succ]) | (refine wpP_skip rfl (by rfl) ?_; simp only [Act.put, List.setIfInBounds_toArray, List.set_cons_zero, List.set_cons_succ])
        first | (refine wpP_quiet (v := ?_) rfl (by rfl) ?_ ?_; rotate_left; (· (intro w' hw'; subst hw'; go_simp; try with_reducible rfl)); simp only [Act.put, List.setIfInBounds_toArray, List.set_cons_zero, List.set_cons_succ]) | (refine wpP_skip rfl (by rfl) ?_; simp only [Act.put, List.setIfInBounds_toArray, List.set_cons_zero, List.set_cons_succ])
        first | (refine wpP_quiet (v := ?_) rfl (by rfl) ?_ ?_; rotate_left; (· (intro w' hw'; subst hw'; go_simp; try with_reducible rfl)); simp only [Act.put, List.setIfInBounds_toArray, List.set_cons_zero, List.set_cons_succ]) | (refine wpP_skip rfl (by rfl) ?_; simp only [Act.put, List.setIfInBounds_toArray, List.set_cons_zero, List.set_cons_succ])
        first | (refine wpP_quiet (v := ?_) rfl (by rfl) ?_ ?_; rotate_left; (· (intro w' hw'; subst hw'; go_simp; try with_reducible rfl)); simp only [Act.put, List.setIfInBounds_toArray, List.set_cons_zero, List.set_cons_succ]) | (refine wpP_skip rfl (by rfl) ?_; simp only [Act.put, List.setIfInBounds_toArray, List.set_cons_zero, List.set_cons_succ])
        first | (refine wpP_quiet (v := ?_) rfl (by rfl) ?_ ?_; rotate_left; (· (intro w' hw'; subst hw'; go_simp; try with_reducible rfl)); simp only [Act.put, List.setIfInBounds_toArray, List.set_cons_zero, List.set_cons_succ]) | (refine wpP_skip rfl (by rfl) ?_; simp only [Act.put, List.setIfInBounds_toArray, List.set_cons_zero, List.set_cons_succ])
        first | (refine wpP_quiet (v := ?_) rfl (by rfl) ?_ ?_; rotate_left; (· (intro w' hw'; subst hw'; go_simp; try with_reducible rfl)); simp only [Act.put, List.setIfInBounds_toArray, List.set_cons_zero, List.set_cons_succ]) | (refine wpP_skip rfl (by rfl) ?_; simp only [Act.put, List.setIfInBounds_toArray, List.set_cons_zero, List.set_cons_succ])
        first | (refine wpP_quiet (v := ?_) rfl (by rfl) ?_ ?_; rotate_left; (· (intro w' hw'; subst hw'; go_simp; try with_reducible rfl)); simp only [Act.put, List.setIfInBounds_toArray, List.set_cons_zero, List.set_cons_succ]) | (refine wpP_skip rfl (by rfl) ?_; simp only [Act.put, List.setIfInBounds_toArray, List.set_cons_zero, List.set_cons_succ])
        first | (refine wpP_quiet (v := ?_) rfl (by rfl) ?_ ?_; rotate_left; (· (intro w' hw'; subst hw'; go_simp; try with_reducible rfl)); simp only [Act.put, List.setIfInBounds_toArray, List.set_cons_zero, List.set_cons_succ]) | (refine wpP_skip rfl (by rfl) ?_; simp only [Act.put, List.setIfInBounds_toArray, List.set_cons_zero, List.set_cons_succ])
        first | (refine wpP_quiet (v := ?_) rfl (by rfl) ?_ ?_; rotate_left; (· (intro w' hw'; subst hw'; go_simp; try with_reducible rfl)); simp only [Act.put, List.setIfInBounds_toArray, List.set_cons_zero, List.set_cons_succ]) | (refine wpP_skip rfl (by rfl) ?_; simp only [Act.put, List.setIfInBounds_toArray, List.set_cons_zero, List.set_cons_succ])
        first | (refine wpP_quiet (v := ?_) rfl (by rfl) ?_ ?_; rotate_left; (· (intro w' hw'; subst hw'; go_simp; try with_reducible rfl)); simp only [Act.put, List.setIfInBounds_toArray, List.set_cons_zero, List.set_cons_succ]) | (refine wpP_skip rfl (by rfl) ?_; simp only [Act.put, List.setIfInBounds_toArray, List.set_cons_zero, List.set_cons_succ])
        first | (refine wpP_quiet (v := ?_) rfl (by rfl) ?_ ?_; rotate_left; (· (intro w' hw'; subst hw'; go_simp; try with_reducible rfl)); simp only [Act.put, List.setIfInBounds_toArray, List.set_cons_zero, List.set_cons_succ]) | (refine wpP_skip rfl (by rfl) ?_; simp only [Act.put, List.setIfInBounds_toArray, List.set_cons_zero, List.set_cons_succ])
        first | (refine wpP_quiet (v := ?_) rfl (by rfl) ?_ ?_; rotate_left; (· (intro w' hw'; subst hw'; go_simp; try with_reducible rfl)); simp only [Act.put, List.setIfInBounds_toArray, List.set_cons_zero, List.set_cons_succ]) | (refine wpP_skip rfl (by rfl) ?_; simp only [Act.put, List.setIfInBounds_toArray, List.set_cons_zero, List.set_cons_succ])
        first | (refine wpP_quiet (v := ?_) rfl (by rfl) ?_ ?_; rotate_left; (· (intro w' hw'; subst hw'; go_simp; try with_reducible rfl)); simp only [Act.put, List.setIfInBounds_toArray, List.set_cons_zero, List.set_cons_succ]) | (refine wpP_skip rfl (by rfl) ?_; simp only [Act.put, List.setIfInBounds_toArray, List.set_cons_zero, List.set_cons_succ])
        refine wpP_done ?_
        go_wp2_with fail
        refine bodyPost_ret (results_none rfl _ _ _) rfl ?_
        refine ⟨rfl, ff, l, ?_⟩
        rw [HE.out, HF.out, show expEnd (c2, x2).1 (c2, x2).2 = (c2, x2) from by show expEnd c2 x2 = _; unfold expEnd; rw [if_neg (fun h => h1 (HST.out ▸ h.1))]]
        exact HO.out
    · obtain rfl : q = n := by omega
      have t1 : ¬ (q : Int) < (q : Int) := by omega
      have HF : Hid (expLoop q 0 c x = (c2, x2)) := (show _ = _ by
        rw [← HR.out, Nat.sub_self]
        rfl)
      by_cases h1 : st = 1
      · subst h1
        go_upto_region 7 with fail
        have wd : IntKind.i64.wrap (nw - at0) = nw - at0 := IntWalk.i64_in _ (by omega)
        by_cases hw : nw - at0 ≤ 3
        · refine wp_region_P (.take 0 (.take 1 (.take 2 (.take 3 (.take 4 (.take 5 (.take 6 (.take 7 (.take 8 (.take 9 (.take 10 (.take 11 (.take 12 (.take 13 (.take 14 (.take 15 (.take 16 .done))))))))))))))))) ((fun a b => a = b)) (by kernel_rfl) (by kernel_rfl) (by kernel_rfl) (by decide +kernel) (fun _ => rfl) (fun _ _ _ h k => h.trans k) (by intro d v c a w h; first | (cases d <;> exact h) | exact absurd h.1 (by simp)) ?_
          have d3 : wr.drew.cell? ⟨CB, 3, none⟩ = some (.int .i64 1) := k3
          have d2 : wr.drew.cell? ⟨CB, 2, none⟩ = some (.int .i64 at0) := (by have := HO.out.cat; rw [HK.out.at_, HAT.out] at this; exact this)
          have d0 : wr.drew.cell? ⟨P, 0, none⟩ = some (.int .i64 nw) := (by have := HO.out.k0; rw [HK.out.now, HNW.out] at this; exact this)
          have HOD := Lib.hid HO.out.drew
          have ffd : FrS [P, CB, SB] w wr.drew := ff.trans_ (FrS.of_below (Below.refl _ _).drew)
          clear k36 k3 HO ff
          generalize wr.drew = V0 at *
          have HO := HOD
          have ff := ffd
          clear HOD ffd
          first | (refine wpP_quiet (v := ?_) rfl (by rfl) ?_ ?_; rotate_left; (· (intro w' hw'; subst hw'; go_simp; try with_reducible rfl)); simp only [Act.put, List.setIfInBounds_toArray, List.set_cons_zero, List.set_cons_succ]) | (refine wpP_skip rfl (by rfl) ?_; simp only [Act.put, List.setIfInBounds_toArray, List.set_cons_zero, List.set_cons_succ])
          first | (refine wpP_quiet (v := ?_) rfl (by rfl) ?_ ?_; rotate_left; (· (intro w' hw'; subst hw'; go_simp; try with_reducible rfl)); simp only [Act.put, List.setIfInBounds_toArray, List.set_cons_zero, List.set_cons_succ]) | (refine wpP_skip rfl (by rfl) ?_; simp only [Act.put, List.setIfInBounds_toArray, List.set_cons_zero, List.set_cons_succ])
          first | (refine wpP_quiet (v := ?_) rfl (by rfl) ?_ ?_; rotate_left; (· (intro w' hw'; subst hw'; go_simp; try with_reducible rfl)); simp only [Act.put, List.setIfInBounds_toArray, List.set_cons_zero, List.set_cons_succ]) | (refine wpP_skip rfl (by rfl) ?_; simp only [Act.put, List.setIfInBounds_toArray, List.set_cons_zero, List.set_cons_succ])
          first | (refine wpP_quiet (v := ?_) rfl (by rfl) ?_ ?_; rotate_left; (· (intro w' hw'; subst hw'; go_simp; try with_reducible rfl)); simp only [Act.put, List.setIfInBounds_toArray, List.set_cons_zero, List.set_cons_succ]) | (refine wpP_skip rfl (by rfl) ?_; simp only [Act.put, List.setIfInBounds_toArray, List.set_cons_zero, List.set_cons_succ])
          first | (refine wpP_quiet (v := ?_) rfl (by rfl) ?_ ?_; rotate_left; (· (intro w' hw'; subst hw'; go_simp; try with_reducible rfl)); simp only [Act.put, List.setIfInBounds_toArray, List.set_cons_zero, List.set_cons_succ]) | (refine wpP_skip rfl (by rfl) ?_; simp only [Act.put, List.setIfInBounds_toArray, List.set_cons_zero, List.set_cons_succ])
          first | (refine wpP_quiet (v := ?_) rfl (by rfl) ?_ ?_; rotate_left; (· (intro w' hw'; subst hw'; go_simp; try with_reducible rfl)); simp only [Act.put, List.setIfInBounds_toArray, List.set_cons_zero, List.set_cons_succ]) | (refine wpP_skip rfl (by rfl) ?_; simp only [Act.put, List.setIfInBounds_toArray, List.set_cons_zero, List.set_cons_succ])
          first | (refine wpP_quiet (v := ?_) rfl (by rfl) ?_ ?_; rotate_left; (· (intro w' hw'; subst hw'; go_simp; try with_reducible rfl)); simp only [Act.put, List.setIfInBounds_toArray, List.set_cons_zero, List.set_cons_succ]) | (refine wpP_skip rfl (by rfl) ?_; simp only [Act.put, List.setIfInBounds_toArray, List.set_cons_zero, List.set_cons_succ])
          first | (refine wpP_quiet (v := ?_) rfl (by rfl) ?_ ?_; rotate_left; (· (intro w' hw'; subst hw'; go_simp; try with_reducible rfl)); simp only [Act.put, List.setIfInBounds_toArray, List.set_cons_zero, List.set_cons_succ]) | (refine wpP_skip rfl (by rfl) ?_; simp only [Act.put, List.setIfInBounds_toArray, List.set_cons_zero, List.set_cons_succ])
          first | (refine wpP_quiet (v := ?_) rfl (by rfl) ?_ ?_; rotate_left; (· (intro w' hw'; subst hw'; go_simp; try with_reducible rfl)); simp only [Act.put, List.setIfInBounds_toArray, List.set_cons_zero, List.set_cons_succ]) | (refine wpP_skip rfl (by rfl) ?_; simp only [Act.put, List.setIfInBounds_toArray, List.set_cons_zero, List.set_cons_succ])
          first | (refine wpP_quiet (v := ?_) rfl (by rfl) ?_ ?_; rotate_left; (· (intro w' hw'; subst hw'; go_simp; try with_reducible rfl)); simp only [Act.put, List.setIfInBounds_toArray, List.set_cons_zero, List.set_cons_succ]) | (refine wpP_skip rfl (by rfl) ?_; simp only [Act.put, List.setIfInBounds_toArray, List.set_cons_zero, List.set_cons_succ])
          first | (refine wpP_quiet (v := ?_) rfl (by rfl) ?_ ?_; rotate_left; (· (intro w' hw'; subst hw'; go_simp; try with_reducible rfl)); simp only [Act.put, List.setIfInBounds_toArray, List.set_cons_zero, List.set_cons_succ]) | (refine wpP_skip rfl (by rfl) ?_; simp only [Act.put, List.setIfInBounds_toArray, List.set_cons_zero, List.set_cons_succ])
          first | (refine wpP_quiet (v := ?_) rfl (by rfl) ?_ ?_; rotate_left; (· (intro w' hw'; subst hw'; go_simp; try with_reducible rfl)); simp only [Act.put, List.setIfInBounds_toArray, List.set_cons_zero, List.set_cons_succ]) | (refine wpP_skip rfl (by rfl) ?_; simp only [Act.put, List.setIfInBounds_toArray, List.set_cons_zero, List.set_cons_succ])
          first | (refine wpP_quiet (v := ?_) rfl (by rfl) ?_ ?_; rotate_left; (· (intro w' hw'; subst hw'; go_simp; try with_reducible rfl)); simp only [Act.put, List.setIfInBounds_toArray, List.set_cons_zero, List.set_cons_succ]) | (refine wpP_skip rfl (by rfl) ?_; simp only [Act.put, List.setIfInBounds_toArray, List.set_cons_zero, List.set_cons_succ])
          first | (refine wpP_quiet (v := ?_) rfl (by rfl) ?_ ?_; rotate_left; (· (intro w' hw'; subst hw'; go_simp; try with_reducible rfl)); simp only [Act.put, List.setIfInBounds_toArray, List.set_cons_zero, List.set_cons_succ]) | (refine wpP_skip rfl (by rfl) ?_; simp only [Act.put, List.setIfInBounds_toArray, List.set_cons_zero, List.set_cons_succ])
          first | (refine wpP_quiet (v := ?_) rfl (by rfl) ?_ ?_; rotate_left; (· (intro w' hw'; subst hw'; go_simp; try with_reducible rfl)); simp only [Act.put, List.setIfInBounds_toArray, List.set_cons_zero, List.set_cons_succ]) | (refine wpP_skip rfl (by rfl) ?_; simp only [Act.put, List.setIfInBounds_toArray, List.set_cons_zero, List.set_cons_succ])
          first | (refine wpP_quiet (v := ?_) rfl (by rfl) ?_ ?_; rotate_left; (· (intro w' hw'; subst hw'; go_simp; try with_reducible rfl)); simp only [Act.put, List.setIfInBounds_toArray, List.set_cons_zero, List.set_cons_succ]) | (refine wpP_skip rfl (by rfl) ?_; simp only [Act.put, List.setIfInBounds_toArray, List.set_cons_zero, List.set_cons_succ])
          first | (refine wpP_quiet (v := ?_) rfl (by rfl) ?_ ?_; rotate_left; (· (intro w' hw'; subst hw'; go_simp; try with_reducible rfl)); simp only [Act.put, List.setIfInBounds_toArray, List.set_cons_zero, List.set_cons_succ]) | (refine wpP_skip rfl (by rfl) ?_; simp only [Act.put, List.setIfInBounds_toArray, List.set_cons_zero, List.set_cons_succ])
          refine wpP_done ?_
          go_wp2_with fail
          refine bodyPost_ret (results_none rfl _ _ _) rfl ?_
          refine ⟨rfl, ff, l, ?_⟩
          rw [HE.out, HF.out, show expEnd (c2, x2).1 (c2, x2).2 = (c2, x2) from by show expEnd c2 x2 = _; unfold expEnd; rw [if_neg (fun h => by have h2 := h.2.1; rw [HK.out.now, HK.out.at_, HNW.out, HAT.out] at h2; omega)]]
          exact HO.out
        · refine wp_region_P (.take 0 (.take 1 (.take 2 (.take 3 (.take 4 (.take 5 (.take 6 (.take 7 (.take 8 (.take 9 (.take 10 (.take 11 (.take 12 (.take 13 (.take 14 (.take 15 (.take 16 .done))))))))))))))))) ((fun a b => a = b)) (by kernel_rfl) (by kernel_rfl) (by kernel_rfl) (by decide +kernel) (fun _ => rfl) (fun _ _ _ h k => h.trans k) (by intro d v c a w h; first | (cases d <;> exact h) | exact absurd h.1 (by simp)) ?_
          have d3 : wr.drew.cell? ⟨CB, 3, none⟩ = some (.int .i64 1) := k3
          have d2 : wr.drew.cell? ⟨CB, 2, none⟩ = some (.int .i64 at0) := (by have := HO.out.cat; rw [HK.out.at_, HAT.out] at this; exact this)
          have d0 : wr.drew.cell? ⟨P, 0, none⟩ = some (.int .i64 nw) := (by have := HO.out.k0; rw [HK.out.now, HNW.out] at this; exact this)
          have HOD := Lib.hid HO.out.drew
          have ffd : FrS [P, CB, SB] w wr.drew := ff.trans_ (FrS.of_below (Below.refl _ _).drew)
          clear k36 k3 HO ff
          generalize wr.drew = V0 at *
          have HO := HOD
          have ff := ffd
          clear HOD ffd
          first | (refine wpP_quiet (v := ?_) rfl (by rfl) ?_ ?_; rotate_left; (· (intro w' hw'; subst hw'; go_simp; try with_reducible rfl)); simp only [Act.put, List.setIfInBounds_toArray, List.set_cons_zero, List.set_cons_succ]) | (refine wpP_skip rfl (by rfl) ?_; simp only [Act.put, List.setIfInBounds_toArray, List.set_cons_zero, List.set_cons_succ])
          first | (refine wpP_quiet (v := ?_) rfl (by rfl) ?_ ?_; rotate_left; (· (intro w' hw'; subst hw'; go_simp; try with_reducible rfl)); simp only [Act.put, List.setIfInBounds_toArray, List.set_cons_zero, List.set_cons_succ]) | (refine wpP_skip rfl (by rfl) ?_; simp only [Act.put, List.setIfInBounds_toArray, List.set_cons_zero, List.set_cons_succ])
          first | (refine wpP_quiet (v := ?_) rfl (by rfl) ?_ ?_; rotate_left; (· (intro w' hw'; subst hw'; go_simp; try with_reducible rfl)); simp only [Act.put, List.setIfInBounds_toArray, List.set_cons_zero, List.set_cons_succ]) | (refine wpP_skip rfl (by rfl) ?_; simp only [Act.put, List.setIfInBounds_toArray, List.set_cons_zero, List.set_cons_succ])
          first | (refine wpP_quiet (v := ?_) rfl (by rfl) ?_ ?_; rotate_left; (· (intro w' hw'; subst hw'; go_simp; try with_reducible rfl)); simp only [Act.put, List.setIfInBounds_toArray, List.set_cons_zero, List.set_cons_succ]) | (refine wpP_skip rfl (by rfl) ?_; simp only [Act.put, List.setIfInBounds_toArray, List.set_cons_zero, List.set_cons_succ])
          first | (refine wpP_quiet (v := ?_) rfl (by rfl) ?_ ?_; rotate_left; (· (intro w' hw'; subst hw'; go_simp; try with_reducible rfl)); simp only [Act.put, List.setIfInBounds_toArray, List.set_cons_zero, List.set_cons_succ]) | (refine wpP_skip rfl (by rfl) ?_; simp only [Act.put, List.setIfInBounds_toArray, List.set_cons_zero, List.set_cons_succ])
          first | (refine wpP_quiet (v := ?_) rfl (by rfl) ?_ ?_; rotate_left; (· (intro w' hw'; subst hw'; go_simp; try with_reducible rfl)); simp only [Act.put, List.setIfInBounds_toArray, List.set_cons_zero, List.set_cons_succ]) | (refine wpP_skip rfl (by rfl) ?_; simp only [Act.put, List.setIfInBounds_toArray, List.set_cons_zero, List.set_cons_succ])
          first | (refine wpP_quiet (v := ?_) rfl (by rfl) ?_ ?_; rotate_left; (· (intro w' hw'; subst hw'; go_simp; try with_reducible rfl)); simp only [Act.put, List.setIfInBounds_toArray, List.set_cons_zero, List.set_cons_succ]) | (refine wpP_skip rfl (by rfl) ?_; simp only [Act.put, List.setIfInBounds_toArray, List.set_cons_zero, List.set_cons_succ])
          first | (refine wpP_quiet (v := ?_) rfl (by rfl) ?_ ?_; rotate_left; (· (intro w' hw'; subst hw'; go_simp; try with_reducible rfl)); simp only [Act.put, List.setIfInBounds_toArray, List.set_cons_zero, List.set_cons_succ]) | (refine wpP_skip rfl (by rfl) ?_; simp only [Act.put, List.setIfInBounds_toArray, List.set_cons_zero, List.set_cons_succ])
          first | (refine wpP_quiet (v := ?_) rfl (by rfl) ?_ ?_; rotate_left; (· (intro w' hw'; subst hw'; go_simp; try with_reducible rfl)); simp only [Act.put, List.setIfInBounds_toArray, List.set_cons_zero, List.set_cons_succ]) | (refine wpP_skip rfl (by rfl) ?_; simp only [Act.put, List.setIfInBounds_toArray, List.set_cons_zero, List.set_cons_succ])
          first | (refine wpP_quiet (v := ?_) rfl (by rfl) ?_ ?_; rotate_left; (· (intro w' hw'; subst hw'; go_simp; try with_reducible rfl)); simp only [Act.put, List.setIfInBounds_toArray, List.set_cons_zero, List.set_cons_succ]) | (refine wpP_skip rfl (by rfl) ?_; simp only [Act.put, List.setIfInBounds_toArray, List.set_cons_zero, List.set_cons_succ])
          first | (refine wpP_quiet (v := ?_) rfl (by rfl) ?_ ?_; rotate_left; (· (intro w' hw'; subst hw'; go_simp; try with_reducible rfl)); simp only [Act.put, List.setIfInBounds_toArray, List.set_cons_zero, List.set_cons_succ]) | (refine wpP_skip rfl (by rfl) ?_; simp only [Act.put, List.setIfInBounds_toArray, List.set_cons_zero, List.set_cons_succ])
          first | (refine wpP_quiet (v := ?_) rfl (by rfl) ?_ ?_; rotate_left; (· (intro w' hw'; subst hw'; go_simp; try with_reducible rfl)); simp only [Act.put, List.setIfInBounds_toArray, List.set_cons_zero, List.set_cons_succ]) | (refine wpP_skip rfl (by rfl) ?_; simp only [Act.put, List.setIfInBounds_toArray, List.set_cons_zero, List.set_cons_succ])
          first | (refine wpP_quiet (v := ?_) rfl (by rfl) ?_ ?_; rotate_left; (· (intro w' hw'; subst hw'; go_simp; try with_reducible rfl)); simp only [Act.put, List.setIfInBounds_toArray, List.set_cons_zero, List.set_cons_succ]) | (refine wpP_skip rfl (by rfl) ?_; simp only [Act.put, List.setIfInBounds_toArray, List.set_cons_zero, List.set_cons_succ])
          first | (refine wpP_quiet (v := ?_) rfl (by rfl) ?_ ?_; rotate_left; (· (intro w' hw'; subst hw'; go_simp; try with_reducible rfl)); simp only [Act.put, List.setIfInBounds_toArray, List.set_cons_zero, List.set_cons_succ]) | (refine wpP_skip rfl (by rfl) ?_; simp only [Act.put, List.setIfInBounds_toArray, List.set_cons_zero, List.set_cons_succ])
          first | (refine wpP_quiet (v := ?_) rfl (by rfl) ?_ ?_; rotate_left; (· (intro w' hw'; subst hw'; go_simp; try with_reducible rfl)); simp only [Act.put, List.setIfInBounds_toArray, List.set_cons_zero, List.set_cons_succ]) | (refine wpP_skip rfl (by rfl) ?_; simp only [Act.put, List.setIfInBounds_toArray, List.set_cons_zero, List.set_cons_succ])
          first | (refine wpP_quiet (v := ?_) rfl (by rfl) ?_ ?_; rotate_left; (· (intro w' hw'; subst hw'; go_simp; try with_reducible rfl)); simp only [Act.put, List.setIfInBounds_toArray, List.set_cons_zero, List.set_cons_succ]) | (refine wpP_skip rfl (by rfl) ?_; simp only [Act.put, List.setIfInBounds_toArray, List.set_cons_zero, List.set_cons_succ])
          first | (refine wpP_quiet (v := ?_) rfl (by rfl) ?_ ?_; rotate_left; (· (intro w' hw'; subst hw'; go_simp; try with_reducible rfl)); simp only [Act.put, List.setIfInBounds_toArray, List.set_cons_zero, List.set_cons_succ]) | (refine wpP_skip rfl (by rfl) ?_; simp only [Act.put, List.setIfInBounds_toArray, List.set_cons_zero, List.set_cons_succ])
          refine wpP_done ?_
          have k36 := HO.out.cv
          go_wp2_with fail
          refine (contains_any _ x2.suits HO.out.xok.suits V0 HO.out.sx HO.out.xok.n).mono ?_
          rintro e V1 ⟨rfl, hb1⟩
          have HO1 := Lib.hid (HO.out.to hb1)
          have ff1 := ff.trans_ (FrS.of_below hb1)
          clear HO ff d3 d2 d0 hb1 k36
          have HO := HO1
          have ff := ff1
          clear HO1 ff1
          rcases openS_ge x2.suits 0 (Int.le_refl _) with hop | hop
          · have HOP := Lib.hid hop
            rw [hop]
            clear hop
            have fz3 := HO.out.bc.fz 3
            have k3 : V1.cell? ⟨CB, 3, none⟩ = some (.int .i64 1) := by rw [← HST.out]; exact HO.out.cst
            go_wp2_with fail
            have HO2 := Lib.hid (HO.out.st 2)
            have u2 : RBut (some CB) V1 (V1.setCell ⟨CB, 3, none⟩ (.int .i64 2)) := RBut.setC _ _ _ _
            have ff2 := ff.trans_ (FrS.of_but u2 (by simp))
            have HNE2 := Lib.hid HO.out.n2
            clear HO ff fz3 k3 u2
            generalize V1.setCell ⟨CB, 3, none⟩ (.int .i64 2) = V2w at *
            have HO := HO2
            have ff := ff2
            clear HO2 ff2
            have hby := HBY.out
            obtain ⟨b, hb⟩ : ∃ b : Nat, x2.by_ = (b : Int) := ⟨x2.by_.toNat, by rw [HK.out.by_]; omega⟩
            have hb8 : b < 8 := by rw [HK.out.by_] at hb; omega
            have HB := Lib.hid hb
            have bsrc := HO.out.bc
            have ksrc : (clF (.slice (some ⟨SB, 0, none⟩) l.length cS, ({ x2 with st := 2 } : CL)) ++ rest)[0]? = some (.int .i64 (b : Int)) := by
              rw [List.getElem?_append_left (by rw [clF_len HO.out.xok.root]; decide), ← HB.out]
              exact cl_by
            have HNE := Lib.hid (show CB ≠ P from fun e => HNE2.out e.symm)
            obtain ⟨z, hz⟩ : ∃ z, c2.bank.getD b 0 = z := ⟨_, rfl⟩
            have hzb : 0 ≤ z ∧ z ≤ 10000000 := by have := (HK.out.bk HST.out).2 b hb8; omega
            have HZ0 := Lib.hid hz
            have HZ : Hid ((({ c2 with claims := [{ x2 with st := 2 }] } : CO).bank).getD b 0 = z) := hz
            have wz : IntKind.i64.wrap (z + 100) = z + 100 := IntWalk.i64_in _ (by omega)
            clear hz hb
            refine wp_region_P (.take 0 (.take 1 (.take 2 (.take 3 (.take 4 (.take 5 (.take 6 (.take 7 (.take 10 (.take 11 (.one 8 (.take 9 (.take 12 (.one 13 .done)))))))))))))) (RBut (some P)) (by kernel_rfl) (by kernel_rfl) (by kernel_rfl) (by decide +kernel) (RBut.refl_ _) (RBut.trans_ _) (by intro d v c a w h; first | (cases d <;> exact h) | exact absurd h.1 (by simp)) ?_
            have HOD := Lib.hid HO.out.drew
            have ffd : FrS [P, CB, SB] w V2w.drew := ff.trans_ (FrS.of_below (Below.refl _ _).drew)
            have bsrcd : Blk V2w.drew CB _ _ := bsrc
            clear HO ff bsrc
            generalize V2w.drew = V2 at *
            have HO := HOD
            have ff := ffd
            have bsrc := bsrcd
            clear HOD ffd bsrcd
            have kb : V2.cell? ⟨P, 34 + b, none⟩ = some (.int .i64 z) := by rw [← HZ.out]; exact HO.out.kb b hb8
            have fzb := HO.out.bp.fz (34 + b)
            have t8 : (b : Int) < 8 := by omega
            have t9 : (0 : Int) ≤ (b : Int) := by omega
            first | (refine wpP_quiet (v := ?_) rfl (by rfl) ?_ ?_; rotate_left; (· (intro w' hw'; go_simp; try with_reducible rfl)); simp only [Act.put, List.setIfInBounds_toArray, List.set_cons_zero, List.set_cons_succ]) | (refine wpP_skip rfl (by rfl) ?_; simp only [Act.put, List.setIfInBounds_toArray, List.set_cons_zero, List.set_cons_succ])
            first | (refine wpP_quiet (v := ?_) rfl (by rfl) ?_ ?_; rotate_left; (· (intro w' hw'; go_simp; try with_reducible rfl)); simp only [Act.put, List.setIfInBounds_toArray, List.set_cons_zero, List.set_cons_succ]) | (refine wpP_skip rfl (by rfl) ?_; simp only [Act.put, List.setIfInBounds_toArray, List.set_cons_zero, List.set_cons_succ])
            first | (refine wpP_quiet (v := ?_) rfl (by rfl) ?_ ?_; rotate_left; (· (intro w' hw'; go_simp; try with_reducible rfl)); simp only [Act.put, List.setIfInBounds_toArray, List.set_cons_zero, List.set_cons_succ]) | (refine wpP_skip rfl (by rfl) ?_; simp only [Act.put, List.setIfInBounds_toArray, List.set_cons_zero, List.set_cons_succ])
            first | (refine wpP_quiet (v := ?_) rfl (by rfl) ?_ ?_; rotate_left; (· (intro w' hw'; go_simp; try with_reducible rfl)); simp only [Act.put, List.setIfInBounds_toArray, List.set_cons_zero, List.set_cons_succ]) | (refine wpP_skip rfl (by rfl) ?_; simp only [Act.put, List.setIfInBounds_toArray, List.set_cons_zero, List.set_cons_succ])
            refine wpP_quiet (v := .int .i64 (b : Int)) rfl (by rfl) (fun w' hw' => by (have kq : w'.cell? ⟨CB, 0, none⟩ = some (.int .i64 (b : Int)) := (by rw [(bsrc.but hw' (by intro e; injection e with e; exact HNE.out e)).cell]; exact ksrc); go_simp; try with_reducible rfl)) ?_
            simp only [Act.put, List.setIfInBounds_toArray, List.set_cons_zero, List.set_cons_succ]
            first | (refine wpP_quiet (v := ?_) rfl (by rfl) ?_ ?_; rotate_left; (· (intro w' hw'; go_simp; try with_reducible rfl)); simp only [Act.put, List.setIfInBounds_toArray, List.set_cons_zero, List.set_cons_succ]) | (refine wpP_skip rfl (by rfl) ?_; simp only [Act.put, List.setIfInBounds_toArray, List.set_cons_zero, List.set_cons_succ])
            first | (refine wpP_quiet (v := ?_) rfl (by rfl) ?_ ?_; rotate_left; (· (intro w' hw'; go_simp; try with_reducible rfl)); simp only [Act.put, List.setIfInBounds_toArray, List.set_cons_zero, List.set_cons_succ]) | (refine wpP_skip rfl (by rfl) ?_; simp only [Act.put, List.setIfInBounds_toArray, List.set_cons_zero, List.set_cons_succ])
            first | (refine wpP_quiet (v := ?_) rfl (by rfl) ?_ ?_; rotate_left; (· (intro w' hw'; go_simp; try with_reducible rfl)); simp only [Act.put, List.setIfInBounds_toArray, List.set_cons_zero, List.set_cons_succ]) | (refine wpP_skip rfl (by rfl) ?_; simp only [Act.put, List.setIfInBounds_toArray, List.set_cons_zero, List.set_cons_succ])
            first | (refine wpP_quiet (v := ?_) rfl (by rfl) ?_ ?_; rotate_left; (· (intro w' hw'; go_simp; try with_reducible rfl)); simp only [Act.put, List.setIfInBounds_toArray, List.set_cons_zero, List.set_cons_succ]) | (refine wpP_skip rfl (by rfl) ?_; simp only [Act.put, List.setIfInBounds_toArray, List.set_cons_zero, List.set_cons_succ])
            first | (refine wpP_quiet (v := ?_) rfl (by rfl) ?_ ?_; rotate_left; (· (intro w' hw'; go_simp; try with_reducible rfl)); simp only [Act.put, List.setIfInBounds_toArray, List.set_cons_zero, List.set_cons_succ]) | (refine wpP_skip rfl (by rfl) ?_; simp only [Act.put, List.setIfInBounds_toArray, List.set_cons_zero, List.set_cons_succ])
            refine wpP_one ?_
            refine wpP_loud rfl (by rfl) ?_
            intro K hK
            go_simp
            refine hK.out _ _ (RBut.refl_ _ _) ?_
            clear hK K
            try simp only [Act.put, List.setIfInBounds_toArray, List.set_cons_zero, List.set_cons_succ]
            first | (refine wpP_quiet (v := ?_) rfl (by rfl) ?_ ?_; rotate_left; (· (intro w' hw'; go_simp; try with_reducible rfl)); simp only [Act.put, List.setIfInBounds_toArray, List.set_cons_zero, List.set_cons_succ]) | (refine wpP_skip rfl (by rfl) ?_; simp only [Act.put, List.setIfInBounds_toArray, List.set_cons_zero, List.set_cons_succ])
            first | (refine wpP_quiet (v := ?_) rfl (by rfl) ?_ ?_; rotate_left; (· (intro w' hw'; go_simp; try with_reducible rfl)); simp only [Act.put, List.setIfInBounds_toArray, List.set_cons_zero, List.set_cons_succ]) | (refine wpP_skip rfl (by rfl) ?_; simp only [Act.put, List.setIfInBounds_toArray, List.set_cons_zero, List.set_cons_succ])
            refine wpP_one ?_
            refine wpP_loud rfl (by rfl) ?_
            intro K hK
            go_simp
            refine hK.out _ _ (RBut.setC _ _ _ _) ?_
            clear hK K
            try simp only [Act.put, List.setIfInBounds_toArray, List.set_cons_zero, List.set_cons_succ]
            refine wpP_done ?_
            have HO3 := Lib.hid (HO.out.bank b hb8 (z + 100))
            have u3 : RBut (some P) V2 (V2.setCell ⟨P, 34 + b, none⟩ (.int .i64 (z + 100))) := RBut.setC _ _ _ _
            have ff3 := ff.trans_ (FrS.of_but u3 (by simp))
            clear kb fzb HO ff bsrc u3 ksrc
            generalize V2.setCell ⟨P, 34 + b, none⟩ (.int .i64 (z + 100)) = V3 at *
            have HO := HO3
            have ff := ff3
            clear HO3 ff3
            go_wp2_with fail
            refine bodyPost_end (results_none rfl _ _ _) rfl ?_
            refine ⟨rfl, ff, l, ?_⟩
            rw [HE.out, HF.out, show expEnd (c2, x2).1 (c2, x2).2 = ({ c2 with bank := addB c2.bank x2.by_.toNat 100, claims := [{ x2 with st := 2 }] }, { x2 with st := 2 }) from by
              show expEnd c2 x2 = _
              unfold expEnd
              rw [if_pos ⟨HST.out, by rw [HK.out.now, HK.out.at_, HNW.out, HAT.out]; omega, HOP.out⟩]]
            have e1 : addB c2.bank x2.by_.toNat 100 = c2.bank.set b (z + 100) := by
              unfold addB
              rw [HB.out, Int.toNat_natCast, HZ0.out]
            rw [e1]
            exact HO.out
          · have t4 : decide (0 ≤ openS x2.suits 0) = true := decide_eq_true hop
            rw [t4]
            have HOP := Lib.hid hop
            clear t4 hop
            go_wp2_with fail
            refine bodyPost_end (results_none rfl _ _ _) rfl ?_
            refine ⟨rfl, ff, l, ?_⟩
            rw [HE.out, HF.out, show expEnd (c2, x2).1 (c2, x2).2 = (c2, x2) from by show expEnd c2 x2 = _; unfold expEnd; rw [if_neg (fun h => by have h3 := h.2.2; have := HOP.out; omega)]]
            exact HO.out
      · have t2 : (st == 1) = false := by simpa using h1
        have t3 : (st != 1) = true := by simpa using h1
        go_upto_region 7 with fail
        refine wp_region_P (.take 0 (.take 1 (.take 2 (.take 3 (.take 4 (.take 5 (.take 6 (.take 7 (.take 8 (.take 9 (.take 10 (.take 11 (.take 12 (.take 13 (.take 14 (.take 15 (.take 16 .done))))))))))))))))) ((fun a b => a = b)) (by kernel_rfl) (by kernel_rfl) (by kernel_rfl) (by decide +kernel) (fun _ => rfl) (fun _ _ _ h k => h.trans k) (by intro d v c a w h; first | (cases d <;> exact h) | exact absurd h.1 (by simp)) ?_
        have d3 : wr.drew.cell? ⟨CB, 3, none⟩ = some (.int .i64 st) := k3
        have d2 : wr.drew.cell? ⟨CB, 2, none⟩ = some (.int .i64 at0) := (by have := HO.out.cat; rw [HK.out.at_, HAT.out] at this; exact this)
        have d0 : wr.drew.cell? ⟨P, 0, none⟩ = some (.int .i64 nw) := (by have := HO.out.k0; rw [HK.out.now, HNW.out] at this; exact this)
        have HOD := Lib.hid HO.out.drew
        have ffd : FrS [P, CB, SB] w wr.drew := ff.trans_ (FrS.of_below (Below.refl _ _).drew)
        clear k36 k3 HO ff
        generalize wr.drew = V0 at *
        have HO := HOD
        have ff := ffd
        clear HOD ffd
        first | (refine wpP_quiet (v := ?_) rfl (by rfl) ?_ ?_; rotate_left; (· (intro w' hw'; subst hw'; go_simp; try with_reducible rfl)); simp only [Act.put, List.setIfInBounds_toArray, List.set_cons_zero, List.set_cons_succ]) | (refine wpP_skip rfl (by rfl) ?_; simp only [Act.put, List.setIfInBounds_toArray, List.set_cons_zero, List.set_cons_succ])
        first | (refine wpP_quiet (v := ?_) rfl (by rfl) ?_ ?_; rotate_left; (· (intro w' hw'; subst hw'; go_simp; try with_reducible rfl)); simp only [Act.put, List.setIfInBounds_toArray, List.set_cons_zero, List.set_cons_succ]) | (refine wpP_skip rfl (by rfl) ?_; simp only [Act.put, List.setIfInBounds_toArray, List.set_cons_zero, List.set_cons_succ])
        first | (refine wpP_quiet (v := ?_) rfl (by rfl) ?_ ?_; rotate_left; (· (intro w' hw'; subst hw'; go_simp; try with_reducible rfl)); simp only [Act.put, List.setIfInBounds_toArray, List.set_cons_zero, List.set_cons_succ]) | (refine wpP_skip rfl (by rfl) ?_; simp only [Act.put, List.setIfInBounds_toArray, List.set_cons_zero, List.set_cons_succ])
        first | (refine wpP_quiet (v := ?_) rfl (by rfl) ?_ ?_; rotate_left; (· (intro w' hw'; subst hw'; go_simp; try with_reducible rfl)); simp only [Act.put, List.setIfInBounds_toArray, List.set_cons_zero, List.set_cons_succ]) | (refine wpP_skip rfl (by rfl) ?_; simp only [Act.put, List.setIfInBounds_toArray, List.set_cons_zero, List.set_cons_succ])
        first | (refine wpP_quiet (v := ?_) rfl (by rfl) ?_ ?_; rotate_left; (· (intro w' hw'; subst hw'; go_simp; try with_reducible rfl)); simp only [Act.put, List.setIfInBounds_toArray, List.set_cons_zero, List.set_cons_succ]) | (refine wpP_skip rfl (by rfl) ?_; simp only [Act.put, List.setIfInBounds_toArray, List.set_cons_zero, List.set_cons_succ])
        first | (refine wpP_quiet (v := ?_) rfl (by rfl) ?_ ?_; rotate_left; (· (intro w' hw'; subst hw'; go_simp; try with_reducible rfl)); simp only [Act.put, List.setIfInBounds_toArray, List.set_cons_zero, List.set_cons_succ]) | (refine wpP_skip rfl (by rfl) ?_; simp only [Act.put, List.setIfInBounds_toArray, List.set_cons_zero, List.set_cons_succ])
        first | (refine wpP_quiet (v := ?_) rfl (by rfl) ?_ ?_; rotate_left; (· (intro w' hw'; subst hw'; go_simp; try with_reducible rfl)); simp only [Act.put, List.setIfInBounds_toArray, List.set_cons_zero, List.set_cons_succ]) | (refine wpP_skip rfl (by rfl) ?_; simp only [Act.put, List.setIfInBounds_toArray, List.set_cons_zero, List.set_cons_succ])
        first | (refine wpP_quiet (v := ?_) rfl (by rfl) ?_ ?_; rotate_left; (· (intro w' hw'; subst hw'; go_simp; try with_reducible rfl)); simp only [Act.put, List.setIfInBounds_toArray, List.set_cons_zero, List.set_cons_succ]) | (refine wpP_skip rfl (by rfl) ?_; simp only [Act.put, List.setIfInBounds_toArray, List.set_cons_zero, List.set_cons_succ])
        first | (refine wpP_quiet (v := ?_) rfl (by rfl) ?_ ?_; rotate_left; (· (intro w' hw'; subst hw'; go_simp; try with_reducible rfl)); simp only [Act.put, List.setIfInBounds_toArray, List.set_cons_zero, List.set_cons_succ]) | (refine wpP_skip rfl (by rfl) ?_; simp only [Act.put, List.setIfInBounds_toArray, List.set_cons_zero, List.set_cons_succ])
        first | (refine wpP_quiet (v := ?_) rfl (by rfl) ?_ ?_; rotate_left; (· (intro w' hw'; subst hw'; go_simp; try with_reducible rfl)); simp only [Act.put, List.setIfInBounds_toArray, List.set_cons_zero, List.set_cons_succ]) | (refine wpP_skip rfl (by rfl) ?_; simp only [Act.put, List.setIfInBounds_toArray, List.set_cons_zero, List.set_cons_succ])
        first | (refine wpP_quiet (v := ?_) rfl (by rfl) ?_ ?_; rotate_left; (· (intro w' hw'; subst hw'; go_simp; try with_reducible rfl)); simp only [Act.put, List.setIfInBounds_toArray, List.set_cons_zero, List.set_cons_succ]) | (refine wpP_skip rfl (by rfl) ?_; simp only [Act.put, List.setIfInBounds_toArray, List.set_cons_zero, List.set_cons_succ])
        first | (refine wpP_quiet (v := ?_) rfl (by rfl) ?_ ?_; rotate_left; (· (intro w' hw'; subst hw'; go_simp; try with_reducible rfl)); simp only [Act.put, List.setIfInBounds_toArray, List.set_cons_zero, List.set_cons_succ]) | (refine wpP_skip rfl (by rfl) ?_; simp only [Act.put, List.setIfInBounds_toArray, List.set_cons_zero, List.set_cons_succ])
        first | (refine wpP_quiet (v := ?_) rfl (by rfl) ?_ ?_; rotate_left; (· (intro w' hw'; subst hw'; go_simp; try with_reducible rfl)); simp only [Act.put, List.setIfInBounds_toArray, List.set_cons_zero, List.set_cons_succ]) | (refine wpP_skip rfl (by rfl) ?_; simp only [Act.put, List.setIfInBounds_toArray, List.set_cons_zero, List.set_cons_succ])
        first | (refine wpP_quiet (v := ?_) rfl (by rfl) ?_ ?_; rotate_left; (· (intro w' hw'; subst hw'; go_simp; try with_reducible rfl)); simp only [Act.put, List.setIfInBounds_toArray, List.set_cons_zero, List.set_cons_succ]) | (refine wpP_skip rfl (by rfl) ?_; simp only [Act.put, List.setIfInBounds_toArray, List.set_cons_zero, List.set_cons_succ])
        first | (refine wpP_quiet (v := ?_) rfl (by rfl) ?_ ?_; rotate_left; (· (intro w' hw'; subst hw'; go_simp; try with_reducible rfl)); simp only [Act.put, List.setIfInBounds_toArray, List.set_cons_zero, List.set_cons_succ]) | (refine wpP_skip rfl (by rfl) ?_; simp only [Act.put, List.setIfInBounds_toArray, List.set_cons_zero, List.set_cons_succ])
        first | (refine wpP_quiet (v := ?_) rfl (by rfl) ?_ ?_; rotate_left; (· (intro w' hw'; subst hw'; go_simp; try with_reducible rfl)); simp only [Act.put, List.setIfInBounds_toArray, List.set_cons_zero, List.set_cons_succ]) | (refine wpP_skip rfl (by rfl) ?_; simp only [Act.put, List.setIfInBounds_toArray, List.set_cons_zero, List.set_cons_succ])
        first | (refine wpP_quiet (v := ?_) rfl (by rfl) ?_ ?_; rotate_left; (· (intro w' hw'; subst hw'; go_simp; try with_reducible rfl)); simp only [Act.put, List.setIfInBounds_toArray, List.set_cons_zero, List.set_cons_succ]) | (refine wpP_skip rfl (by rfl) ?_; simp only [Act.put, List.setIfInBounds_toArray, List.set_cons_zero, List.set_cons_succ])
        refine wpP_done ?_
        go_wp2_with fail
        refine bodyPost_ret (results_none rfl _ _ _) rfl ?_
        refine ⟨rfl, ff, l, ?_⟩
        rw [HE.out, HF.out, show expEnd (c2, x2).1 (c2, x2).2 = (c2, x2) from by show expEnd c2 x2 = _; unfold expEnd; rw [if_neg (fun h => h1 (HST.out ▸ h.1))]]
        exact HO.out
end Go.Proofs.Ytgljcfemindgoaa
/- The walk of court.Next, of a court of one claim that was sued. -/
set_option linter.unusedSimpArgs false
set_option linter.unusedVariables false
namespace Go.Proofs.Ytgljcfemindgoaa
open Go.RowKit
set_option maxRecDepth 100000
def nextM (c : CO) (x : CL) (n : Int) : CO := (expM { c with now := c.now + n } x).1
set_option maxRecDepth 100000 in
set_option maxHeartbeats 4000000 in
theorem nextM_any (v : Value) (c : CO) (hc : c.ok) (x : CL) (hcl : c.claims = [x]) (hs : x.suits ≠ []) (hne : ∀ y ∈ x.suits, y.hs ≠ []) (n : Int) (hn : 0 ≤ n ∧ n ≤ 50) (hnow : 0 ≤ c.now ∧ c.now ≤ 1000) (hat : 0 ≤ x.at_ ∧ x.at_ ≤ 1000) (hby : 0 ≤ x.by_ ∧ x.by_ < 8) (hsb : ∀ y ∈ x.suits, 0 ≤ y.by_ ∧ y.by_ < 8) (hbk : BkB 1000000 c.bank)
    (w : World) (h : CoX [] w v c) : Calls Try.prog 17 #[v, .int .i64 n] w (RCe w (nextM c x n) 0) := by
  obtain ⟨vt, vc, rfl, hx⟩ := h
  have hX : CoX [] w (.agg (coC vt vc c).toArray) c := ⟨vt, vc, rfl, hx⟩
  obtain ⟨W, HW, hbw, bp, bz⟩ := box_co w vt vc c
  have HC := Lib.hid hc
  have ICO := Lib.hid (info_co (vt := vt) (vc := vc) hc.pre hc.bank)
  have HCL := Lib.hid hcl
  have HS := Lib.hid hs
  have HNE := Lib.hid hne
  have HBY := Lib.hid hby
  have HSB := Lib.hid hsb
  have HBK := Lib.hid hbk
  obtain ⟨r, hr⟩ : ∃ r, nextM c x n = r := ⟨_, rfl⟩
  rw [hr]
  have HR := Lib.hid hr
  have hWz := bz.lt
  have hXW := hX.to hbw
  clear hc hx hX hcl hs hne hby hsb hbk hr
  go_enter Try.func17, Try.ntmps17
  go_upto_region 1 with fail
  refine wp_at HW.out ?_
  clear HW
  go_wp2_with (first
    | (refine wpl_load_fld (by rfl) _ _ rfl w.heap.size 0 rfl (coC vt vc c) _ bp.range Try.underlying30 rfl ICO.out ?_))
  refine (ownC_any _ c HC.out W hXW).mono ?_
  intro e w1 hro
  obtain ⟨T, CB, cC, rest, vs, rfl, hT, hb1, hone⟩ := hro.one HC.out HCL.out
  have HONE := Lib.hid hone
  have bp1 := bp.to hb1
  have bz1 := bz.to hb1
  have f1 := hbw.trans (hb1.mono hbw.size)
  have IC1 := Lib.hid (info_co (vt := .slice (some ⟨T, 0, none⟩) c.txs.length c.txs.length) (vc := .slice (some ⟨CB, 0, none⟩) 1 cC) HC.out.pre HC.out.bank)
  clear bp bz hb1 hbw hXW ICO hone hro
  go_upto_region 2 with (first
    | (refine wpl_store_fld (by rfl) _ _ _ rfl w.heap.size 0 _ _ (coC (.slice (some ⟨T, 0, none⟩) c.txs.length c.txs.length) (.slice (some ⟨CB, 0, none⟩) 1 cC) c) rfl _ rfl rfl bp1 (by rw [coC_len HC.out.pre HC.out.bank, coC_len HC.out.pre HC.out.bank]; exact Nat.le_refl _) IC1.out (coC_one rfl rfl) ?_
       intro w2 bp2 bu2
       rw [put_all _ _ (by rw [coC_len HC.out.pre HC.out.bank, coC_len HC.out.pre HC.out.bank])] at bp2))
  have hO := HONE.out w.heap.size w2 (by omega) bu2 bp2
  have bz2 := bz1.but bu2 (by intro e; injection e; omega)
  have f2 := f1.trans (below_but bu2 (Nat.le_refl _) f1.size)
  clear bu2 bz1 f1 bp1 bp2 HONE IC1
  have htc := hO.tc
  obtain ⟨SB, cS, srest, l, rfl, hSB, hM⟩ := hO.m HS.out
  have HO := Lib.hid hM
  have k0 := hM.k0
  have k42 := hM.k42
  have fz0 := hM.bp.fz 0
  clear hO hM
  go_wp2_with fail
  have HO3 := Lib.hid (HO.out.now (c.now + n))
  have u3 : RBut (some w.heap.size) w2 (w2.setCell ⟨w.heap.size, 0, none⟩ (.int .i64 (c.now + n))) := RBut.setC _ _ _ _
  generalize w2.setCell ⟨w.heap.size, 0, none⟩ (.int .i64 (c.now + n)) = w3 at *
  have bz3 := bz2.but u3 (by intro e; injection e; omega)
  have f3 := f2.trans (below_but u3 (Nat.le_refl _) f2.size)
  clear HO bz2 f2 u3 k0 k42 fz0
  obtain ⟨c1, hc1⟩ : ∃ c1 : CO, { c with now := c.now + n } = c1 := ⟨_, rfl⟩
  have hn1 : c1.now = c.now + n := by rw [← hc1]
  have hb1 : c1.bank = c.bank := by rw [← hc1]
  rw [hc1] at HO3
  have HR1 : Hid ((expM c1 x).1 = r) := (show _ = _ by rw [← hc1]; exact HR.out)
  have HN1 := Lib.hid hn1
  have HB1 := Lib.hid hb1
  clear hc1 hn1 hb1
  go_loopw [32] (fun k wr => (k = .int .i64 0 ∧ wr = w3) ∨ (k = .int .i64 1 ∧ Below w.heap.size w wr ∧ Blk wr (w.heap.size + 1) 30 zeroCC ∧ ∃ l', Hid (OneM wr w.heap.size T CB SB cC cS rest srest l' (expM c1 x).1 (expM c1 x).2))) (fun k _ => 1 - (intOf k).toNat)
  case atStart => exact .inl ⟨rfl, rfl⟩
  case round =>
    rcases hrel with ⟨rfl, rfl⟩ | ⟨rfl, f4, bz4, l', HO4⟩
    · go_wp2_with fail
      refine (expireM_any HO3.out HNE.out HBY.out HSB.out (by rw [HB1.out]; exact HBK.out) (by rw [HN1.out]; omega) (by omega)).mono ?_
      rintro e wr2 ⟨rfl, fr, l', h4⟩
      have HO4 := Lib.hid h4
      have f4 := f3.trans (fr.below (D := w.heap.size) (fun b hb => by simp at hb; omega) f3.size)
      have bz4 := fr.blk bz3 (by simp; omega)
      clear h4 fr f3 bz3 HO3
      go_wp2_with fail
      go_roundw
      case rel => exact .inr ⟨rfl, f4, bz4, l', HO4⟩
      case measure => simp [intOf]
    · clear bz3 f3 HO3
      obtain ⟨c2, hc2⟩ : ∃ c2, (expM c1 x).1 = c2 := ⟨_, rfl⟩
      obtain ⟨x2, hx2⟩ : ∃ x2, (expM c1 x).2 = x2 := ⟨_, rfl⟩
      rw [hc2, hx2] at HO4
      have HE : Hid (r = c2) := (show _ = _ by rw [← HR1.out, hc2])
      have I4 := Lib.hid HO4.out.info
      have HP4 : Hid (c2.pre.length = 32 ∧ c2.bank.length = 8) := Lib.hid ⟨HO4.out.ok.pre, HO4.out.ok.bank⟩
      clear hc2 hx2
      go_wp2_with (first
        | (refine wpl_load_fld (by rfl) _ _ rfl w.heap.size 0 rfl (coC (.slice (some ⟨T, 0, none⟩) c2.txs.length c2.txs.length) (.slice (some ⟨CB, 0, none⟩) 1 cC) c2) _ HO4.out.bp.range Try.underlying30 rfl I4.out ?_))
      refine (ownC_any _ _ HO4.out.ok wr HO4.out.cox).mono ?_
      intro e w6 hro
      obtain ⟨vt6, vc6, rfl, o6t, o6c, hb6, hfin⟩ := hro.xt HO4.out.ok
      have hz4 := bz4.lt
      have hf4 := f4.size
      have bz6 := bz4.to hb6
      have f6 := f4.trans (hb6.mono f4.size)
      have IC6 := Lib.hid (info_co (vt := vt6) (vc := vc6) (c := c2) HP4.out.1 HP4.out.2)
      have HL6 : Hid ((coC vt6 vc6 c2).length = 43) := Lib.hid (coC_len (c := c2) HP4.out.1 HP4.out.2)
      clear hro bz4 f4 HO4
      go_wp2_with (first
        | (refine wpl_store_fld (by rfl) _ _ _ rfl (w.heap.size + 1) 0 _ _ (coC vt6 vc6 c2) rfl _ rfl rfl bz6 (by rw [HL6.out]; exact Nat.le_refl _) IC6.out (coC_one o6t o6c) ?_
           intro w7 bz7 bu7
           rw [put_all _ _ (by rw [HL6.out]; rfl)] at bz7))
      refine bodyPost_ret (results_blk2 Try.results17 rfl rfl bz7 Try.underlying30 rfl IC6.out) rfl ?_
      refine ⟨_, rfl, ?_, f6.trans (below_but bu7 (by omega) f6.size)⟩
      rw [HE.out]
      exact fun S hS => hfin (w.heap.size + 1) w7 hz4 bu7 S (fun b hb => by have := hS b hb; omega)
end Go.Proofs.Ytgljcfemindgoaa
/- Walks: the moves that court hands on (Middle's and Side's function literals). -/
set_option linter.unusedSimpArgs false
set_option linter.unusedVariables false
namespace Go.Proofs.Ytgljcfemindgoaa
open Go.RowKit
set_option maxRecDepth 100000
set_option maxRecDepth 100000 in
set_option maxHeartbeats 2000000 in
theorem middleFn_any (A : Option Addr) (n c : Nat) (hs : List (List UInt8)) (d : GD) (hd : GLen d) (mid : List UInt8) (hm : mid.length = 32) (b : Nat) (now : Int) (w : World) (h : Sl w 32 A n (H8 hs)) (hn : n ≤ 4194304) (bm : Blk w b 25 (B8 mid)) (m1 : 0 ≤ d.moves) (m2 : d.moves ≤ 1099511627776) :
    Calls Try.prog 42 #[gval (.slice A n c) d, .int .i64 now, .pointer (some ⟨b, 0, none⟩)] w (RGe w hs n (sayD d mid now)) := by
  obtain ⟨W, HW, hbw, gb, zb⟩ := box_game w (.slice A n c) d hd
  have hW := h.to hbw
  have bmW := bm.to hbw
  have HM := Lib.hid hm
  have hz := zb.lt
  have hbl := bm.lt
  clear hm bm
  unfold gval
  go_enter Try.func42, Try.ntmps42
  go_upto_region 1 with fail
  refine wp_at HW.out ?_
  clear HW
  go_wp2_with (first
    | (refine wpl_gload gb (by rfl) _ _ rfl rfl _ Try.underlying47 rfl info_g ?_)
    | (refine wpl_load_fld (by rfl) _ _ rfl b 0 rfl (B8 mid) _ bmW.range Try.underlying25 rfl (info_hash HM.out) ?_))
  refine (say_any A n c hs d hd mid now W hW hn HM.out m1 m2).mono ?_
  rintro e w1 ⟨A1, c1, rfl, sl1, hb1, fr1, le1⟩
  have zb1 := zb.to hb1
  have f1 := hbw.trans (hb1.mono hbw.size)
  have hl1 : GLen (sayD d mid now).1 := by
    unfold sayD
    split
    · exact ⟨hd.1, hd.2, HM.out⟩
    · exact hd
  dsimp only
  go_wp2_with (first
    | (refine wpl_gput zb1 zero_len hl1 rfl (by rfl) _ _ _ rfl rfl rfl info_g ?_
       intro w2 gb2 bu2))
  refine bodyPost_ret (results_blk2 Try.results42 rfl rfl gb2.blk Try.underlying47 rfl (info_game gb2.len)) rfl ?_
  refine ⟨A1, c1, rfl, sl1.but2 bu2 (fun b hb e => by injection e with e; have := fr1 b hb; omega), f1.trans (below_but bu2 (by omega) f1.size), fun b hb => by have := fr1 b hb; omega, le1⟩
set_option maxRecDepth 100000 in
set_option maxHeartbeats 2000000 in
theorem sideFn_any (A : Option Addr) (n c : Nat) (hs : List (List UInt8)) (d : GD) (hd : GLen d) (right : Bool) (b : Nat) (now : Int) (w : World) (h : Sl w 32 A n (H8 hs)) (hn : n ≤ 4194304) (hbl : b < w.heap.size) (kb : w.cell? ⟨b, 0, none⟩ = some (.bool right)) (m1 : 0 ≤ d.moves) (m2 : d.moves ≤ 1099511627776)
    (l1 : 0 ≤ d.lo) (l2 : d.lo ≤ d.hi) (l3 : d.hi ≤ 1099511627776) :
    Calls Try.prog 45 #[gval (.slice A n c) d, .int .i64 now, .pointer (some ⟨b, 0, none⟩)] w (RGe w hs n (chooseD d right now)) := by
  obtain ⟨W, HW, hbw, gb, zb⟩ := box_game w (.slice A n c) d hd
  have hW := h.to hbw
  have kW : W.cell? ⟨b, 0, none⟩ = some (.bool right) := by rw [hbw.cell hbl]; exact kb
  have hz := zb.lt
  clear kb
  unfold gval
  go_enter Try.func45, Try.ntmps45
  go_upto_region 1 with fail
  refine wp_at HW.out ?_
  clear HW
  go_wp2_with (first
    | (refine wpl_gload gb (by rfl) _ _ rfl rfl _ Try.underlying47 rfl info_g ?_))
  refine (choose_any A n c hs d hd right now W hW hn m1 m2 l1 l2 l3).mono ?_
  rintro e w1 ⟨A1, c1, rfl, sl1, hb1, fr1, le1⟩
  have zb1 := zb.to hb1
  have f1 := hbw.trans (hb1.mono hbw.size)
  have hl1 : GLen (chooseD d right now).1 := by
    unfold chooseD
    split
    · cases right
      · exact ⟨hd.1, hd.3, rfl⟩
      · exact ⟨hd.3, hd.2, rfl⟩
    · exact hd
  dsimp only
  go_wp2_with (first
    | (refine wpl_gput zb1 zero_len hl1 rfl (by rfl) _ _ _ rfl rfl rfl info_g ?_
       intro w2 gb2 bu2))
  refine bodyPost_ret (results_blk2 Try.results45 rfl rfl gb2.blk Try.underlying47 rfl (info_game gb2.len)) rfl ?_
  refine ⟨A1, c1, rfl, sl1.but2 bu2 (fun b hb e => by injection e with e; have := fr1 b hb; omega), f1.trans (below_but bu2 (by omega) f1.size), fun b hb => by have := fr1 b hb; omega, le1⟩
end Go.Proofs.Ytgljcfemindgoaa
