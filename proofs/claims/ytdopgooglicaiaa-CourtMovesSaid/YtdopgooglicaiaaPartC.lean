/- The texts of this claim, part C: words, plain laws, walks. -/
import Derived.Test.YtdopgooglicaiaaPartB
import Derived.Test.YtdopgooglicaiaaPartA
import Derived.Test.YtdopgooglicaiaaProg
import Derived.IntWalk
import Derived.Deep.Cut
import Derived.StillTailTactics
/- The walk of game.Expire. -/
set_option linter.unusedSimpArgs false
set_option linter.unusedVariables false
namespace Go.Proofs.Ytdopgooglicaiaa
open Go.RowKit
set_option maxRecDepth 100000
def expireD (d : GD) (now : Int) : GD × Int := if ¬ clockB now then (d, 1) else if d.turn = 4 then (d, 18) else if now ≤ d.limit then (d, 23) else (overD d (d.turn == 2), 0)
set_option maxRecDepth 100000 in
set_option maxHeartbeats 2000000 in
theorem expire_any (A : Option Addr) (n c : Nat) (hs : List (List UInt8)) (d : GD) (hd : GLen d) (now : Int) (w : World) (h : Sl w 32 A n (H8 hs)) (hn : n ≤ 4194304) :
    Calls Try.prog 61 #[gval (.slice A n c) d, .int .i64 now] w (RGe w hs n (expireD d now)) := by
  obtain ⟨W, HW, hbw, gb, zb⟩ := box_game w (.slice A n c) d hd
  have hW := h.to hbw
  have hz := zb.lt
  unfold gval
  go_enter Try.func61, Try.ntmps61
  go_upto_region 1 with fail
  refine wp_at HW.out ?_
  clear HW
  go_wp2_with (first
    | (refine wpl_gload gb (by rfl) _ _ rfl rfl _ Try.underlying42 rfl info_g ?_))
  refine (own_any A n c hs d hd W hW hn).mono ?_
  rintro e w1 ⟨A1, c1, rfl, sl1, hb1, fr1, le1⟩
  have LE1 := Lib.hid le1
  clear le1
  have gb1 := gb.to hb1
  have zb1 := zb.to hb1
  have f1 := hbw.trans (hb1.mono hbw.size)
  clear gb zb
  go_wp2_with (first
    | (refine wpl_gput gb1.blk (gcells_len gb1.len) hd rfl (by rfl) _ _ _ rfl rfl rfl info_g ?_
       intro w2 gb2 bu2))
  have f2 := f1.trans (below_but bu2 (Nat.le_refl _) f1.size)
  have sl2 := sl1.but2 bu2 (fun b hb h => by injection h with h; have := fr1 b hb; omega)
  have zb2 := zb1.but bu2 (by simp)
  have c99 := gb2.c99
  have c101 := gb2.c101
  have ne : ∀ b, A1.map (·.block) = some b → w.heap.size + 2 ≤ b := fun b hb => by have := fr1 b hb; omega
  have NE := Lib.hid ne
  clear gb1 zb1 sl1 f1 bu2 hb1 fr1 ne
  by_cases hc : clockB now
  · have CY := Lib.hid (clock_yes now w2 hc)
    by_cases h4 : d.turn = 4
    · have hS : expireD d now = (d, 18) := by unfold expireD; rw [if_neg (by simp [hc]), if_pos h4]
      have HS := Lib.hid hS
      have t4 : (d.turn == 4) = true := by simpa using h4
      clear hS h4 hc
      refine CY.out.mono ?_
      rintro e w' ⟨rfl, rfl⟩
      go_wp2_with (first
        | (refine wpl_gload gb2 (by rfl) _ _ rfl rfl _ Try.underlying42 rfl info_g ?_)
        | (refine wpl_gput zb2 zero_len hd rfl (by rfl) _ _ _ rfl rfl rfl info_g ?_
           intro w7 gb7 bu7))
      refine bodyPost_ret (results_blk2 Try.results61 rfl rfl gb7.blk Try.underlying42 rfl (info_game gb7.len)) rfl ?_
      rw [HS.out]
      refine ⟨A1, c1, rfl, ?_, f2.trans (below_but bu7 (by omega) f2.size), fun b hb => by have := NE.out b hb; omega, LE1.out⟩
      exact sl2.but2 bu7 (fun b hb h => by injection h with h; have := NE.out b hb; omega)
    · have t4 : (d.turn == 4) = false := by simpa using h4
      by_cases h5 : now ≤ d.limit
      · have hS : expireD d now = (d, 23) := by unfold expireD; rw [if_neg (by simp [hc]), if_neg h4, if_pos h5]
        have HS := Lib.hid hS
        clear hS h4 hc
        refine CY.out.mono ?_
        rintro e w' ⟨rfl, rfl⟩
        go_wp2_with (first
          | (refine wpl_gload gb2 (by rfl) _ _ rfl rfl _ Try.underlying42 rfl info_g ?_)
          | (refine wpl_gput zb2 zero_len hd rfl (by rfl) _ _ _ rfl rfl rfl info_g ?_
             intro w7 gb7 bu7))
        refine bodyPost_ret (results_blk2 Try.results61 rfl rfl gb7.blk Try.underlying42 rfl (info_game gb7.len)) rfl ?_
        rw [HS.out]
        refine ⟨A1, c1, rfl, ?_, f2.trans (below_but bu7 (by omega) f2.size), fun b hb => by have := NE.out b hb; omega, LE1.out⟩
        exact sl2.but2 bu7 (fun b hb h => by injection h with h; have := NE.out b hb; omega)
      · have hS : expireD d now = (overD d (d.turn == 2), 0) := by unfold expireD; rw [if_neg (by simp [hc]), if_neg h4, if_neg h5]
        have HS := Lib.hid hS
        clear hS h4 hc
        refine CY.out.mono ?_
        rintro e w' ⟨rfl, rfl⟩
        go_wp2_with (first
          | (refine wpl_gload gb2 (by rfl) _ _ rfl rfl _ Try.underlying42 rfl info_g ?_))
        refine (over_any (.slice A1 n c1) rfl d hd (d.turn == 2) _).mono ?_
        rintro e w6 ⟨rfl, hb6⟩
        have zb6 := zb2.to hb6
        have f6 := f2.trans (hb6.mono f2.size)
        have hl6 : GLen (overD d (d.turn == 2)) := ⟨hd.1, hd.2, hd.3⟩
        go_wp2_with (first
          | (refine wpl_gput zb6 zero_len hl6 rfl (by rfl) _ _ _ rfl rfl rfl info_g ?_
             intro w7 gb7 bu7))
        refine bodyPost_ret (results_blk2 Try.results61 rfl rfl gb7.blk Try.underlying42 rfl (info_game gb7.len)) rfl ?_
        rw [HS.out]
        refine ⟨A1, c1, rfl, ?_, f6.trans (below_but bu7 (by omega) f6.size), fun b hb => by have := NE.out b hb; omega, LE1.out⟩
        exact (sl2.to hb6).but2 bu7 (fun b hb h => by injection h with h; have := NE.out b hb; omega)
  · have CN := Lib.hid (clock_no now w2 hc)
    have hS : expireD d now = (d, 1) := by unfold expireD; rw [if_pos hc]
    have HS := Lib.hid hS
    clear hS hc
    refine CN.out.mono ?_
    rintro e w' ⟨rfl, rfl⟩
    go_wp2_with (first
      | (refine wpl_gload gb2 (by rfl) _ _ rfl rfl _ Try.underlying42 rfl info_g ?_)
      | (refine wpl_gput zb2 zero_len hd rfl (by rfl) _ _ _ rfl rfl rfl info_g ?_
         intro w7 gb7 bu7))
    refine bodyPost_ret (results_blk2 Try.results61 rfl rfl gb7.blk Try.underlying42 rfl (info_game gb7.len)) rfl ?_
    rw [HS.out]
    refine ⟨A1, c1, rfl, ?_, f2.trans (below_but bu7 (by omega) f2.size), fun b hb => by have := NE.out b hb; omega, LE1.out⟩
    exact sl2.but2 bu7 (fun b hb h => by injection h with h; have := NE.out b hb; omega)
end Go.Proofs.Ytdopgooglicaiaa
/- A court as cells; what reads as one. -/
set_option linter.unusedSimpArgs false
set_option linter.unusedVariables false
namespace Go.Proofs.Ytdopgooglicaiaa
open Go.RowKit
set_option maxRecDepth 100000
/-- a suit; a claim; a court -/
structure SU where
  by_ : Int
  g : GD
  hs : List (List UInt8)
structure CL where
  by_ : Int
  n : Int
  at_ : Int
  st : Int
  root : List UInt8
  suits : List SU
structure CO where
  now : Int
  pre : List UInt8
  txs : List (List UInt8)
  bank : List Int
  claims : List CL
structure SU.ok (s : SU) : Prop where
  g : GLen s.g
  hs : ∀ x ∈ s.hs, x.length = 32
  n : s.hs.length ≤ 4194304
structure CL.ok (c : CL) : Prop where
  root : c.root.length = 32
  suits : ∀ s ∈ c.suits, s.ok
  n : c.suits.length ≤ 4096
structure CO.ok (c : CO) : Prop where
  pre : c.pre.length = 32
  txs : ∀ x ∈ c.txs, x.length = 32
  n : c.txs.length ≤ 4194304
  bank : c.bank.length = 8
  claims : ∀ x ∈ c.claims, x.ok
  m : c.claims.length ≤ 4096
def suF (p : Value × SU) : List Value := .int .i64 p.2.by_ :: gcells p.1 p.2.g
def clF (p : Value × CL) : List Value := [.int .i64 p.2.by_, .int .i64 p.2.n, .int .i64 p.2.at_, .int .i64 p.2.st] ++ (B8 p.2.root ++ [p.1])
def coC (vt vc : Value) (c : CO) : List Value := [.int .i64 c.now] ++ (B8 c.pre ++ ([vt] ++ (c.bank.map (Value.int .i64) ++ [vc])))
theorem suF_len {p : Value × SU} (h : GLen p.2.g) : (suF p).length = 106 := by simp [suF, gcells_len h]
theorem clF_len {p : Value × CL} (h : p.2.root.length = 32) : (clF p).length = 37 := by simp [clF, B8_len, h]
theorem coC_len {vt vc : Value} {c : CO} (h : c.pre.length = 32) (hb : c.bank.length = 8) : (coC vt vc c).length = 43 := by simp [coC, B8_len, h, hb]
theorem suF_one {p : Value × SU} (hv : p.1.oneCell' = true) : ∀ u ∈ suF p, u.oneCell' = true := by
  intro u hu
  rcases List.mem_cons.1 hu with rfl | hu
  · rfl
  · exact gcells_one hv u hu
theorem clF_one {p : Value × CL} (hv : p.1.oneCell' = true) : ∀ u ∈ clF p, u.oneCell' = true := by
  intro u hu
  simp only [clF, List.mem_append, List.mem_cons, List.not_mem_nil, or_false] at hu
  rcases hu with (rfl | rfl | rfl | rfl) | hu | rfl
  all_goals first | rfl | exact B8_one _ _ hu | exact hv
theorem coC_one {vt vc : Value} {c : CO} (ht : vt.oneCell' = true) (hc : vc.oneCell' = true) : ∀ u ∈ coC vt vc c, u.oneCell' = true := by
  intro u hu
  simp only [coC, List.mem_append, List.mem_cons, List.not_mem_nil, or_false, List.mem_map] at hu
  rcases hu with rfl | hu | rfl | ⟨_, _, rfl⟩ | rfl
  all_goals first | rfl | exact B8_one _ _ hu | exact ht | exact hc
section
variable {vt vc u : Value} {c : CO}
theorem co_now : (coC vt vc c)[0]? = some (.int .i64 c.now) := rfl
theorem co_txs (h : c.pre.length = 32) : (coC vt vc c)[33]? = some vt := by
  unfold coC
  rw [List.getElem?_append_right (by simp), List.getElem?_append_right (by simp [B8_len, h])]
  simp [B8_len, h]
theorem co_bank (h : c.pre.length = 32) (hb : c.bank.length = 8) (i : Nat) (hi : i < 8) : (coC vt vc c)[34 + i]? = some (.int .i64 (c.bank.getD i 0)) := by
  unfold coC
  rw [List.getElem?_append_right (by simp; omega), List.getElem?_append_right (by simp [B8_len, h]; omega), List.getElem?_append_right (by simp [B8_len, h]; omega), List.getElem?_append_left (by simp [B8_len, h, hb]; omega)]
  simp only [List.length_cons, List.length_nil, B8_len, h, List.getElem?_map]
  rw [show 34 + i - (0 + 1) - 32 - (0 + 1) = i from by omega, List.getD_eq_getElem?_getD, List.getElem?_eq_getElem (by omega)]
  rfl
theorem co_claims (h : c.pre.length = 32) (hb : c.bank.length = 8) : (coC vt vc c)[42]? = some vc := by
  unfold coC
  rw [List.getElem?_append_right (by simp), List.getElem?_append_right (by simp [B8_len, h]), List.getElem?_append_right (by simp [B8_len, h]), List.getElem?_append_right (by simp [B8_len, h, hb])]
  simp [B8_len, h, hb]
theorem co_pre (h : c.pre.length = 32) : ((coC vt vc c).drop 1).take (B8 c.pre).length = B8 c.pre := by simp [coC]
theorem put_now (z : Int) : put_ (coC vt vc c) 0 [.int .i64 z] = coC vt vc { c with now := z } := by simp [put_, coC]
theorem put_txs (h : c.pre.length = 32) (t' : List (List UInt8)) : put_ (coC vt vc c) 33 [u] = coC u vc { c with txs := t' } := by
  have := put_in ([Value.int .i64 c.now] ++ B8 c.pre) [vt] (c.bank.map (Value.int .i64) ++ [vc]) [u] 0 (by simp)
  simp [B8_len, h] at this
  simp only [coC]
  simpa [put_] using this
theorem put_claims (h : c.pre.length = 32) (hb : c.bank.length = 8) (l' : List CL) : put_ (coC vt vc c) 42 [u] = coC vt u { c with claims := l' } := by
  have := put_in ([Value.int .i64 c.now] ++ (B8 c.pre ++ ([vt] ++ c.bank.map (Value.int .i64)))) [vc] [] [u] 0 (by simp)
  simp [B8_len, h, hb] at this
  simp only [coC]
  simpa [put_] using this
theorem put_bank (h : c.pre.length = 32) (hb : c.bank.length = 8) (i : Nat) (hi : i < 8) (z : Int) : put_ (coC vt vc c) (34 + i) [.int .i64 z] = coC vt vc { c with bank := c.bank.set i z } := by
  have := put_in ([Value.int .i64 c.now] ++ (B8 c.pre ++ [vt])) (c.bank.map (Value.int .i64)) [vc] [.int .i64 z] i (by simp [hb]; omega)
  rw [put_one (c.bank.map (Value.int .i64)) i (.int .i64 z) (by simp [hb]; omega)] at this
  rw [show ([Value.int .i64 c.now] ++ (B8 c.pre ++ [vt])).length = 34 from by simp [B8_len, h]] at this
  rw [show coC vt vc c = [Value.int .i64 c.now] ++ (B8 c.pre ++ [vt]) ++ (c.bank.map (Value.int .i64) ++ [vc]) from by simp [coC], this]
  simp [coC, List.map_set]
end
section
variable {v u : Value} {x : CL} {s : SU}
theorem cl_by : (clF (v, x))[0]? = some (.int .i64 x.by_) := rfl
theorem cl_n : (clF (v, x))[1]? = some (.int .i64 x.n) := rfl
theorem cl_at : (clF (v, x))[2]? = some (.int .i64 x.at_) := rfl
theorem cl_st : (clF (v, x))[3]? = some (.int .i64 x.st) := rfl
theorem cl_suits (h : x.root.length = 32) : (clF (v, x))[36]? = some v := by
  unfold clF
  rw [List.getElem?_append_right (by simp), List.getElem?_append_right (by simp [B8_len, h])]
  simp [B8_len, h]
theorem cl_root : ((clF (v, x)).drop 4).take (B8 x.root).length = B8 x.root := by simp [clF]
theorem put_st (z : Int) : put_ (clF (v, x)) 3 [.int .i64 z] = clF (v, { x with st := z }) := by simp [put_, clF]
theorem put_suits (h : x.root.length = 32) (l' : List SU) : put_ (clF (v, x)) 36 [u] = clF (u, { x with suits := l' }) := by
  have := put_in ([Value.int .i64 x.by_, .int .i64 x.n, .int .i64 x.at_, .int .i64 x.st] ++ B8 x.root) [v] [] [u] 0 (by simp)
  simp [B8_len, h] at this
  simp only [clF]
  simpa [put_] using this
theorem su_by : (suF (v, s))[0]? = some (.int .i64 s.by_) := rfl
theorem su_txs : (suF (v, s))[1]? = some v := rfl
theorem su_g : ((suF (v, s)).drop 1).take (gcells v s.g).length = gcells v s.g := by simp [suF]
theorem su_tail (h : GLen s.g) (k : Nat) : (suF (v, s))[100 + k]? = (gtail s.g)[k]? := by
  unfold suF
  rw [show 100 + k = (99 + k) + 1 from by omega, List.getElem?_cons_succ]
  exact g_tail h k
theorem put_stxs (l' : List (List UInt8)) : put_ (suF (v, s)) 1 [u] = suF (u, { s with hs := l' }) := by simp [put_, suF, gcells]
theorem put_sg (h : GLen s.g) (g' : GD) (h' : GLen g') (l' : List (List UInt8)) : put_ (suF (v, s)) 1 (gcells u g') = suF (u, { s with g := g', hs := l' }) := by
  unfold put_ suF
  rw [gcells_len h']
  simp [gcells_len h]
end
/-- no block of some -/
def Av (S : List Nat) (A : Option Addr) : Prop := ∀ b, A.map (·.block) = some b → b ∉ S
def HsX (S : List Nat) (w : World) (v : Value) (hs : List (List UInt8)) : Prop := ∃ A n c, v = .slice A n c ∧ Sl w 32 A n (H8 hs) ∧ hs.length = n ∧ n ≤ c ∧ Av S A
def SuX (S : List Nat) (w : World) (v : Value) (ss : List SU) : Prop := ∃ A n c l, v = .slice A n c ∧ Sl w 106 A n (rows suF l) ∧ l.map (·.2) = ss ∧ l.length = n ∧ n ≤ c ∧ Av S A ∧ ∀ p ∈ l, HsX S w p.1 p.2.hs
def ClX (S : List Nat) (w : World) (v : Value) (cs : List CL) : Prop := ∃ A n c l, v = .slice A n c ∧ Sl w 37 A n (rows clF l) ∧ l.map (·.2) = cs ∧ l.length = n ∧ n ≤ c ∧ Av S A ∧ ∀ p ∈ l, SuX S w p.1 p.2.suits
def CoX (S : List Nat) (w : World) (v : Value) (c : CO) : Prop := ∃ vt vc, v = .agg (coC vt vc c).toArray ∧ HsX S w vt c.txs ∧ ClX S w vc c.claims
theorem HsX.keep {S T : List Nat} {w w' : World} {v : Value} {hs : List (List UInt8)} (h : HsX S w v hs) (hT : ∀ b ∈ T, b ∈ S) (hk : ∀ A n k xs, Av S A → Sl w k A n xs → Sl w' k A n xs) : HsX T w' v hs := by
  obtain ⟨A, n, c, e, sl, h1, h2, h3⟩ := h
  exact ⟨A, n, c, e, hk _ _ _ _ h3 sl, h1, h2, fun b hb hm => h3 b hb (hT b hm)⟩
theorem SuX.keep {S T : List Nat} {w w' : World} {v : Value} {ss : List SU} (h : SuX S w v ss) (hT : ∀ b ∈ T, b ∈ S) (hk : ∀ A n k xs, Av S A → Sl w k A n xs → Sl w' k A n xs) : SuX T w' v ss := by
  obtain ⟨A, n, c, l, e, sl, h1, h2, h3, h4, h5⟩ := h
  exact ⟨A, n, c, l, e, hk _ _ _ _ h4 sl, h1, h2, h3, fun b hb hm => h4 b hb (hT b hm), fun p hp => (h5 p hp).keep hT hk⟩
theorem ClX.keep {S T : List Nat} {w w' : World} {v : Value} {cs : List CL} (h : ClX S w v cs) (hT : ∀ b ∈ T, b ∈ S) (hk : ∀ A n k xs, Av S A → Sl w k A n xs → Sl w' k A n xs) : ClX T w' v cs := by
  obtain ⟨A, n, c, l, e, sl, h1, h2, h3, h4, h5⟩ := h
  exact ⟨A, n, c, l, e, hk _ _ _ _ h4 sl, h1, h2, h3, fun b hb hm => h4 b hb (hT b hm), fun p hp => (h5 p hp).keep hT hk⟩
theorem CoX.keep {S T : List Nat} {w w' : World} {v : Value} {c : CO} (h : CoX S w v c) (hT : ∀ b ∈ T, b ∈ S) (hk : ∀ A n k xs, Av S A → Sl w k A n xs → Sl w' k A n xs) : CoX T w' v c := by
  obtain ⟨vt, vc, e, h1, h2⟩ := h
  exact ⟨vt, vc, e, h1.keep hT hk, h2.keep hT hk⟩
section
variable {S T : List Nat} {w w' : World} {v : Value} {hs : List (List UInt8)} {ss : List SU} {cs : List CL} {c : CO}
theorem HsX.to (h : HsX S w v hs) (hb : Below w.heap.size w w') : HsX S w' v hs := h.keep (fun _ h => h) fun _ _ _ _ _ sl => sl.to hb
theorem SuX.to (h : SuX S w v ss) (hb : Below w.heap.size w w') : SuX S w' v ss := h.keep (fun _ h => h) fun _ _ _ _ _ sl => sl.to hb
theorem ClX.to (h : ClX S w v cs) (hb : Below w.heap.size w w') : ClX S w' v cs := h.keep (fun _ h => h) fun _ _ _ _ _ sl => sl.to hb
theorem CoX.to (h : CoX S w v c) (hb : Below w.heap.size w w') : CoX S w' v c := h.keep (fun _ h => h) fun _ _ _ _ _ sl => sl.to hb
theorem av_ne {A : Option Addr} {p : Nat} (h : Av S A) (hp : p ∈ S) : ∀ b, A.map (·.block) = some b → some b ≠ some p := fun b hb e => by
  injection e with e
  subst e
  exact h _ hb hp
theorem HsX.but {p : Nat} (h : HsX S w v hs) (hr : RBut (some p) w w') (hp : p ∈ S) : HsX S w' v hs := h.keep (fun _ h => h) fun _ _ _ _ ha sl => sl.but2 hr (av_ne ha hp)
theorem SuX.but {p : Nat} (h : SuX S w v ss) (hr : RBut (some p) w w') (hp : p ∈ S) : SuX S w' v ss := h.keep (fun _ h => h) fun _ _ _ _ ha sl => sl.but2 hr (av_ne ha hp)
theorem ClX.but {p : Nat} (h : ClX S w v cs) (hr : RBut (some p) w w') (hp : p ∈ S) : ClX S w' v cs := h.keep (fun _ h => h) fun _ _ _ _ ha sl => sl.but2 hr (av_ne ha hp)
theorem CoX.but {p : Nat} (h : CoX S w v c) (hr : RBut (some p) w w') (hp : p ∈ S) : CoX S w' v c := h.keep (fun _ h => h) fun _ _ _ _ ha sl => sl.but2 hr (av_ne ha hp)
theorem HsX.drew (h : HsX S w v hs) : HsX S w.drew v hs := h.keep (fun _ h => h) fun _ _ _ _ _ sl => sl.drew
theorem SuX.drew (h : SuX S w v ss) : SuX S w.drew v ss := h.keep (fun _ h => h) fun _ _ _ _ _ sl => sl.drew
theorem ClX.drew (h : ClX S w v cs) : ClX S w.drew v cs := h.keep (fun _ h => h) fun _ _ _ _ _ sl => sl.drew
theorem CoX.drew (h : CoX S w v c) : CoX S w.drew v c := h.keep (fun _ h => h) fun _ _ _ _ _ sl => sl.drew
theorem HsX.less (h : HsX S w v hs) (hT : ∀ b ∈ T, b ∈ S) : HsX T w v hs := h.keep hT fun _ _ _ _ _ sl => sl
theorem SuX.less (h : SuX S w v ss) (hT : ∀ b ∈ T, b ∈ S) : SuX T w v ss := h.keep hT fun _ _ _ _ _ sl => sl
theorem ClX.less (h : ClX S w v cs) (hT : ∀ b ∈ T, b ∈ S) : ClX T w v cs := h.keep hT fun _ _ _ _ _ sl => sl
theorem CoX.less (h : CoX S w v c) (hT : ∀ b ∈ T, b ∈ S) : CoX T w v c := h.keep hT fun _ _ _ _ _ sl => sl
theorem HsX.one (h : HsX S w v hs) : v.oneCell' = true := by obtain ⟨A, n, c, rfl, _⟩ := h; rfl
theorem SuX.one (h : SuX S w v ss) : v.oneCell' = true := by obtain ⟨A, n, c, l, rfl, _⟩ := h; rfl
theorem ClX.one (h : ClX S w v cs) : v.oneCell' = true := by obtain ⟨A, n, c, l, rfl, _⟩ := h; rfl
end
theorem info_su {p : Value × SU} (h : GLen p.2.g) : (Try.prog.info? 44).map (·.size) = some (suF p).length := by rw [suF_len h]; kernel_rfl
theorem info_cl {p : Value × CL} (h : p.2.root.length = 32) : (Try.prog.info? 39).map (·.size) = some (clF p).length := by rw [clF_len h]; kernel_rfl
theorem info_co {vt vc : Value} {c : CO} (h : c.pre.length = 32) (hb : c.bank.length = 8) : (Try.prog.info? 30).map (·.size) = some (coC vt vc c).length := by rw [coC_len h hb]; kernel_rfl
end Go.Proofs.Ytdopgooglicaiaa
/- Plain law: SHA-256 as a function of bytes. -/
set_option linter.unusedSimpArgs false
set_option linter.unusedVariables false
namespace Go.Proofs.Ytdopgooglicaiaa
def rotr (n x : Nat) : Nat := x / 2 ^ n ||| (x * 2 ^ (32 - n)) % 4294967296
structure S8 where
  a : Nat
  b : Nat
  c : Nat
  d : Nat
  e : Nat
  f : Nat
  g : Nat
  h : Nat
def lsig0 (x : Nat) : Nat := (rotr 7 x ^^^ rotr 18 x) ^^^ x / 8
def lsig1 (x : Nat) : Nat := (rotr 17 x ^^^ rotr 19 x) ^^^ x / 1024
def usig0 (x : Nat) : Nat := (rotr 2 x ^^^ rotr 13 x) ^^^ rotr 22 x
def usig1 (x : Nat) : Nat := (rotr 6 x ^^^ rotr 11 x) ^^^ rotr 25 x
def chs (e f g : Nat) : Nat := (e &&& f) ^^^ ((4294967295 - e) &&& g)
def maj (a b c : Nat) : Nat := ((a &&& b) ^^^ (a &&& c)) ^^^ (b &&& c)
def shaKs : List Nat := [
  0x428a2f98, 0x71374491, 0xb5c0fbcf, 0xe9b5dba5, 0x3956c25b, 0x59f111f1, 0x923f82a4, 0xab1c5ed5,
  0xd807aa98, 0x12835b01, 0x243185be, 0x550c7dc3, 0x72be5d74, 0x80deb1fe, 0x9bdc06a7, 0xc19bf174,
  0xe49b69c1, 0xefbe4786, 0x0fc19dc6, 0x240ca1cc, 0x2de92c6f, 0x4a7484aa, 0x5cb0a9dc, 0x76f988da,
  0x983e5152, 0xa831c66d, 0xb00327c8, 0xbf597fc7, 0xc6e00bf3, 0xd5a79147, 0x06ca6351, 0x14292967,
  0x27b70a85, 0x2e1b2138, 0x4d2c6dfc, 0x53380d13, 0x650a7354, 0x766a0abb, 0x81c2c92e, 0x92722c85,
  0xa2bfe8a1, 0xa81a664b, 0xc24b8b70, 0xc76c51a3, 0xd192e819, 0xd6990624, 0xf40e3585, 0x106aa070,
  0x19a4c116, 0x1e376c08, 0x2748774c, 0x34b0bcb5, 0x391c0cb3, 0x4ed8aa4a, 0x5b9cca4f, 0x682e6ff3,
  0x748f82ee, 0x78a5636f, 0x84c87814, 0x8cc70208, 0x90befffa, 0xa4506ceb, 0xbef9a3f7, 0xc67178f2]
def shaBegun : S8 := ⟨0x6a09e667, 0xbb67ae85, 0x3c6ef372, 0xa54ff53a, 0x510e527f, 0x9b05688c, 0x1f83d9ab, 0x5be0cd19⟩
/-- word j of a block -/
def w4 (l : List UInt8) (j : Nat) : Nat := (l.getD (4 * j) 0).toNat * 16777216 + (l.getD (4 * j + 1) 0).toNat * 65536 + (l.getD (4 * j + 2) 0).toNat * 256 + (l.getD (4 * j + 3) 0).toNat
def nextW (l : List Nat) (i : Nat) : Nat := (l.getD (i - 16) 0 + lsig0 (l.getD (i - 15) 0) + l.getD (i - 7) 0 + lsig1 (l.getD (i - 2) 0)) % 4294967296
/-- the first i words of a block's 64 -/
def sched (l : List UInt8) : Nat → List Nat
  | 0 => []
  | i + 1 => sched l i ++ [if i < 16 then w4 l i else nextW (sched l i) i]
def rnd (s : S8) (k w : Nat) : S8 :=
  ⟨(s.h + usig1 s.e + chs s.e s.f s.g + k + w + (usig0 s.a + maj s.a s.b s.c)) % 4294967296, s.a, s.b, s.c, (s.d + (s.h + usig1 s.e + chs s.e s.f s.g + k + w)) % 4294967296, s.e, s.f, s.g⟩
def rnds (ws : List Nat) (s : S8) : Nat → S8
  | 0 => s
  | i + 1 => rnd (rnds ws s i) (shaKs.getD i 0) (ws.getD i 0)
def addS (s t : S8) : S8 := ⟨(s.a + t.a) % 4294967296, (s.b + t.b) % 4294967296, (s.c + t.c) % 4294967296, (s.d + t.d) % 4294967296, (s.e + t.e) % 4294967296, (s.f + t.f) % 4294967296, (s.g + t.g) % 4294967296, (s.h + t.h) % 4294967296⟩
def comp (s : S8) (l : List UInt8) : S8 := addS (rnds (sched l 64) s 64) s
def run (s : S8) (l : List UInt8) : Nat → S8
  | 0 => s
  | n + 1 => comp (run s l n) ((l.drop (64 * n)).take 64)
def be8 (n : Nat) : List UInt8 := [UInt8.ofNat (n / 72057594037927936), UInt8.ofNat (n / 281474976710656), UInt8.ofNat (n / 1099511627776), UInt8.ofNat (n / 4294967296), UInt8.ofNat (n / 16777216), UInt8.ofNat (n / 65536), UInt8.ofNat (n / 256), UInt8.ofNat n]
def padZ (n : Nat) : Nat := (119 - n % 64) % 64
def pad (b : List UInt8) : List UInt8 := b ++ [128] ++ List.replicate (padZ b.length) 0 ++ be8 (8 * b.length)
def be4 (n : Nat) : List UInt8 := [UInt8.ofNat (n / 16777216), UInt8.ofNat (n / 65536), UInt8.ofNat (n / 256), UInt8.ofNat n]
def S8.list (s : S8) : List Nat := [s.a, s.b, s.c, s.d, s.e, s.f, s.g, s.h]
def S8.bytes (s : S8) : List UInt8 := s.list.flatMap be4
/-- the sum of bytes -/
def shaS (b : List UInt8) : List UInt8 := (run shaBegun (pad b) ((pad b).length / 64)).bytes
def dig (n : Nat) : UInt8 := if n < 10 then UInt8.ofNat (48 + n) else UInt8.ofNat (87 + n)
def hexS (h : List UInt8) : List UInt8 := h.flatMap fun x => [dig (x.toNat / 16), dig (x.toNat % 16)]
def twoS (a b : List UInt8) : List UInt8 := shaS ([1] ++ a ++ b)
theorem shaS_len (b : List UInt8) : (shaS b).length = 32 := by simp [shaS, S8.bytes, S8.list, be4]
theorem twoS_len (a b : List UInt8) : (twoS a b).length = 32 := shaS_len _
theorem pad_len (b : List UInt8) : (pad b).length % 64 = 0 := by simp [pad, be8, padZ]; omega
end Go.Proofs.Ytdopgooglicaiaa
/- Walks: slices.Clone at bytes. -/
set_option linter.unusedSimpArgs false
set_option linter.unusedVariables false
namespace Go.Proofs.Ytdopgooglicaiaa
open Go.RowKit
set_option maxRecDepth 100000

theorem elB : El Try.prog 82 5 1 1 := El.mk' (z := .int .u8 0) Try.underlying82 (by kernel_rfl) rfl (by decide)

/-- slices.Clone at bytes. -/
theorem clone_B (A : Option Addr) (n c : Nat) (xs : List Value) (w : World) (h : Sl w 1 A n xs) (h1 : ∀ u ∈ xs, u.oneCell' = true) (hn : n ≤ 140737488355328) :
    Calls Try.prog 80 #[.slice A n c] w (RSl w 5 1 xs) := by
  have q : ∀ (W : World) (A : Option Addr), (binOp .eql 82 (.slice A n c) (.slice none 0 0)).run Try.prog W = .ok (.bool A.isNone) W := fun W A => Lib.run_eql_slice_nil W _ _ A n c 0 0 Try.underlying82
  rcases A with _ | ad
  · obtain rfl : n = 0 := by
      rcases Nat.eq_zero_or_pos n with h0 | h0
      · exact h0
      · obtain ⟨_, _, h, _⟩ := h.cells h0
        cases h
    obtain rfl : xs = [] := List.eq_nil_of_length_eq_zero (by simpa using h.len)
    go_enter Try.func80, Try.ntmps80
    go_wp2
    go_ret
    exact RSl.mk Own.nil_ (Below.refl _ _)
  · go_enter Try.func80, Try.ntmps80
    go_wp2_with (first
      | (at_builtin
         refine wpl_app _ _ _ _ elB rfl rfl rfl (Own.made w w.heap.size 5 #[] (Nat.le_refl _) (Nat.zero_le _) (by simp)) rfl (h.alloc _) h1 (by omega) (by omega) (by simp) ?_
         intro A' c' w' g))
    go_ret
    refine RSl.mk (by simpa using g.own) ?_
    exact below_grown ((Below.refl _ _).alloc (Nat.le_refl _) _) g.grow (by simp) (by intro k hk; simp at hk; omega)

end Go.Proofs.Ytdopgooglicaiaa
/- Walks: bits.RotateLeft32, sha.right, capstanref2.rot. -/
set_option linter.unusedSimpArgs false
set_option linter.unusedVariables false
namespace Go.Proofs.Ytdopgooglicaiaa
open Go.RowKit
set_option maxRecDepth 100000
theorem rot_lt {x n : Nat} (hx : x < 4294967296) : rotr n x < 4294967296 := by
  unfold rotr
  exact Nat.or_lt_two_pow (n := 32) (Nat.lt_of_le_of_lt (Nat.div_le_self _ _) hx) (Nat.mod_lt _ (by decide))
theorem rot_bits (x n : Nat) (hx : x < 4294967296) : bits .or .u32 ((x : Int) / 2 ^ n) ((x : Int) * 2 ^ (32 - n) % 4294967296) = ((rotr n x : Nat) : Int) := by
  have e := u32_or_nat (x / 2 ^ n) (x * 2 ^ (32 - n) % 4294967296) (Nat.lt_of_le_of_lt (Nat.div_le_self _ _) hx) (Nat.mod_lt _ (by decide))
  unfold rotr
  rw [← e]
  simp [Int.natCast_ediv, Int.natCast_pow]
theorem rot_bits' (x n m : Nat) (hx : x < 4294967296) (h : m + n = 32) : bits .or .u32 ((x : Int) * 2 ^ m % 4294967296) ((x : Int) / 2 ^ n) = ((rotr n x : Nat) : Int) := by
  have e := u32_or_nat (x * 2 ^ (32 - n) % 4294967296) (x / 2 ^ n) (Nat.mod_lt _ (by decide)) (Nat.lt_of_le_of_lt (Nat.div_le_self _ _) hx)
  obtain rfl : m = 32 - n := by omega
  unfold rotr
  rw [Nat.or_comm, ← e]
  simp [Int.natCast_ediv, Int.natCast_pow]
theorem neg_and (n m : Nat) (h1 : 1 ≤ n) (h : m + n = 32) : bits .and .u64 (IntKind.u64.wrap (-(n : Int))) 31 = (m : Int) := by
  have e1 : IntKind.u64.wrap (-(n : Int)) = ((18446744073709551616 - n : Nat) : Int) := by
    rw [show ∀ m, IntKind.u64.wrap m = m % 18446744073709551616 from fun m => by simp [IntKind.wrap, IntKind.bits, IntKind.signed]]
    omega
  rw [e1, show (31 : Int) = ((31 : Nat) : Int) from rfl, u64_and_nat _ 31 (by omega) (by omega)]
  have e2 := Nat.and_two_pow_sub_one_eq_mod (18446744073709551616 - n) 5
  simp only [Nat.reducePow, Nat.reduceSub] at e2
  rw [e2]
  omega
theorem rotl_any (x n : Nat) (w : World) (hx : x < 4294967296) (h1 : 1 ≤ n) (h2 : n < 32) :
    Calls Try.prog 90 #[.int .u32 x, .int .i64 (-(n : Int))] w fun e w' => e = .returned (.int .u32 ((rotr n x : Nat) : Int)) ∧ w = w' := by
  obtain ⟨m, hm⟩ : ∃ m, m + n = 32 := ⟨32 - n, by omega⟩
  have na := neg_and n m h1 hm
  have X := Lib.hid (rot_bits' x n m hx hm)
  have q : (32 - (m : Int)) = (n : Int) := by omega
  have q2 : m < 32 := by omega
  have HM := Lib.hid hm
  clear hm
  go_enter Try.func90, Try.ntmps90
  go_wp2_with fail
  go_ret
  exact ⟨ret_int X.out, rfl⟩
theorem right_any (x n : Nat) (w : World) (hx : x < 4294967296) (h1 : 1 ≤ n) (h2 : n < 32) :
    Calls Try.prog 88 #[.int .u32 x, .int .i64 n] w fun e w' => e = .returned (.int .u32 ((rotr n x : Nat) : Int)) ∧ w = w' := by
  go_enter Try.func88, Try.ntmps88
  go_wp2_with fail
  refine (rotl_any x n w hx h1 h2).mono ?_
  rintro e w' ⟨rfl, rfl⟩
  go_wp2
  go_ret
  exact ⟨rfl, rfl⟩
theorem rot_any (x n : Nat) (w : World) (hx : x < 4294967296) (h1 : 1 ≤ n) (h2 : n < 32) :
    Calls Try.prog 69 #[.int .u32 x, .int .u64 n] w fun e w' => e = .returned (.int .u32 ((rotr n x : Nat) : Int)) ∧ w = w' := by
  go_enter Try.func69, Try.ntmps69
  go_wp2_with fail
  go_ret
  exact ⟨ret_int (rot_bits x n hx), rfl⟩
end Go.Proofs.Ytdopgooglicaiaa
/- Walks: sha.spread. -/
set_option linter.unusedSimpArgs false
set_option linter.unusedVariables false
namespace Go.Proofs.Ytdopgooglicaiaa
open Go.RowKit
set_option maxRecDepth 100000
def V32 (l : List Nat) : List Value := l.map fun n : Nat => Value.int .u32 (n : Int)
theorem V32_len (l : List Nat) : (V32 l).length = l.length := by simp [V32]
theorem V32_get {l : List Nat} {i n : Nat} (h : l[i]? = some n) : (V32 l)[i]? = some (.int .u32 (n : Int)) := by simp [V32, h]
theorem V32_one (l : List Nat) : ∀ v ∈ V32 l, v.oneCell' = true := by
  intro u hu
  obtain ⟨c, _, rfl⟩ := List.mem_map.1 hu
  rfl
theorem w4_lt (l : List UInt8) (i : Nat) : w4 l i < 4294967296 := by
  unfold w4
  have := (l.getD (4 * i) 0).toNat_lt
  have := (l.getD (4 * i + 1) 0).toNat_lt
  have := (l.getD (4 * i + 2) 0).toNat_lt
  have := (l.getD (4 * i + 3) 0).toNat_lt
  omega
theorem sched_lt (l : List UInt8) : ∀ (i j : Nat), (sched l i).getD j 0 < 4294967296
  | 0, j => by simp [sched]
  | i + 1, j => by
    have hl := sched_lt l i j
    unfold sched
    simp only [List.getD, List.getElem?_append] at hl ⊢
    split
    · exact hl
    · rcases Nat.eq_zero_or_pos (j - (sched l i).length) with h | h
      · rw [h]
        simp only [List.getElem?_cons_zero, Option.getD_some]
        split
        · exact w4_lt l i
        · exact Nat.mod_lt _ (by decide)
      · rw [List.getElem?_eq_none (by simp; omega)]
        simp
theorem sched_len (l : List UInt8) : ∀ i, (sched l i).length = i
  | 0 => rfl
  | i + 1 => by simp [sched, sched_len l i]
theorem sched_lo (l : List UInt8) (i : Nat) (h : i < 16) : sched l (i + 1) = sched l i ++ [w4 l i] := by rw [sched, if_pos h]
theorem sched_hi (l : List UInt8) (i : Nat) (h : 16 ≤ i) : sched l (i + 1) = sched l i ++ [nextW (sched l i) i] := by rw [sched, if_neg (by omega)]
theorem fill_set (l : List Nat) (i k x : Nat) (z : Value) (hl : l.length = i) (hk : 0 < k) : (V32 l ++ List.replicate k z).set i (.int .u32 (x : Int)) = V32 (l ++ [x]) ++ List.replicate (k - 1) z := by
  obtain ⟨k, rfl⟩ : ∃ j, k = j + 1 := ⟨k - 1, by omega⟩
  rw [List.set_append_right _ _ (by rw [V32_len]; omega), V32_len, hl, Nat.sub_self, List.replicate_succ, List.set_cons_zero]
  simp [V32]
theorem wrap_u32_nat (a : Nat) (h : a < 4294967296) : IntKind.u32.wrap (a : Int) = (a : Int) := by rw [IntKind.wrap_u32']; omega
theorem be_word (a b c d : UInt8) : bits .or .u32 (bits .or .u32 (bits .or .u32 (IntKind.u32.wrap (IntKind.u32.wrap (a.toNat : Int) * 16777216)) (IntKind.u32.wrap (IntKind.u32.wrap (b.toNat : Int) * 65536))) (IntKind.u32.wrap (IntKind.u32.wrap (c.toNat : Int) * 256))) (IntKind.u32.wrap (d.toNat : Int)) = ((a.toNat * 16777216 + b.toNat * 65536 + c.toNat * 256 + d.toNat : Nat) : Int) := by
  have ha := a.toNat_lt
  have hb := b.toNat_lt
  have hc := c.toNat_lt
  have hd := d.toNat_lt
  generalize a.toNat = a at *
  generalize b.toNat = b at *
  generalize c.toNat = c at *
  generalize d.toNat = d at *
  have e : ∀ x k : Nat, x < 256 → k ≤ 16777216 → IntKind.u32.wrap (IntKind.u32.wrap (x : Int) * (k : Int)) = ((x * k : Nat) : Int) := by
    intro x k hx hk
    have hxk : x * k < 256 * 16777216 := Nat.lt_of_lt_of_le (Nat.mul_lt_mul_of_lt_of_le hx hk (by decide)) (Nat.le_refl _)
    rw [wrap_u32_nat x (by omega), ← Int.natCast_mul, wrap_u32_nat _ (by omega)]
  have ea := e a 16777216 (by omega) (by omega)
  have eb := e b 65536 (by omega) (by omega)
  have ec := e c 256 (by omega) (by omega)
  simp only [Int.cast_ofNat_Int] at ea eb ec
  rw [ea, eb, ec, wrap_u32_nat d (by omega), u32_or_nat _ _ (by omega) (by omega), nat_join 24 _ _ (by omega) (by omega), u32_or_nat _ _ (by omega) (by omega), nat_join 16 _ _ (by omega) (by omega), u32_or_nat _ _ (by omega) (by omega), nat_join 8 _ _ (by omega) (by omega)]
theorem shr_lt {x : Nat} (k : Nat) (h : x < 4294967296) : x / k < 4294967296 := Nat.lt_of_le_of_lt (Nat.div_le_self _ _) h
theorem xor_lt {a b : Nat} (ha : a < 4294967296) (hb : b < 4294967296) : a ^^^ b < 4294967296 := Nat.xor_lt_two_pow (n := 32) ha hb
theorem and_lt {a b : Nat} (ha : a < 4294967296) : a &&& b < 4294967296 := Nat.lt_of_le_of_lt Nat.and_le_left ha
theorem lsig0_lt {x : Nat} (h : x < 4294967296) : lsig0 x < 4294967296 := xor_lt (xor_lt (rot_lt h) (rot_lt h)) (shr_lt _ h)
theorem lsig1_lt {x : Nat} (h : x < 4294967296) : lsig1 x < 4294967296 := xor_lt (xor_lt (rot_lt h) (rot_lt h)) (shr_lt _ h)
theorem usig0_lt {x : Nat} (h : x < 4294967296) : usig0 x < 4294967296 := xor_lt (xor_lt (rot_lt h) (rot_lt h)) (rot_lt h)
theorem usig1_lt {x : Nat} (h : x < 4294967296) : usig1 x < 4294967296 := xor_lt (xor_lt (rot_lt h) (rot_lt h)) (rot_lt h)
theorem lsig0_bits (x : Nat) (h : x < 4294967296) : bits .xor .u32 (bits .xor .u32 ((rotr 7 x : Nat) : Int) ((rotr 18 x : Nat) : Int)) ((x : Int) / 8) = ((lsig0 x : Nat) : Int) := by
  rw [u32_xor_nat _ _ (rot_lt h) (rot_lt h), show ((x : Int) / 8) = ((x / 8 : Nat) : Int) from by omega, u32_xor_nat _ _ (xor_lt (rot_lt h) (rot_lt h)) (shr_lt _ h)]
  rfl
theorem lsig1_bits (x : Nat) (h : x < 4294967296) : bits .xor .u32 (bits .xor .u32 ((rotr 17 x : Nat) : Int) ((rotr 19 x : Nat) : Int)) ((x : Int) / 1024) = ((lsig1 x : Nat) : Int) := by
  rw [u32_xor_nat _ _ (rot_lt h) (rot_lt h), show ((x : Int) / 1024) = ((x / 1024 : Nat) : Int) from by omega, u32_xor_nat _ _ (xor_lt (rot_lt h) (rot_lt h)) (shr_lt _ h)]
  rfl
theorem usig0_bits (x : Nat) (h : x < 4294967296) : bits .xor .u32 (bits .xor .u32 ((rotr 2 x : Nat) : Int) ((rotr 13 x : Nat) : Int)) ((rotr 22 x : Nat) : Int) = ((usig0 x : Nat) : Int) := by
  rw [u32_xor_nat _ _ (rot_lt h) (rot_lt h), u32_xor_nat _ _ (xor_lt (rot_lt h) (rot_lt h)) (rot_lt h)]
  rfl
theorem usig1_bits (x : Nat) (h : x < 4294967296) : bits .xor .u32 (bits .xor .u32 ((rotr 6 x : Nat) : Int) ((rotr 11 x : Nat) : Int)) ((rotr 25 x : Nat) : Int) = ((usig1 x : Nat) : Int) := by
  rw [u32_xor_nat _ _ (rot_lt h) (rot_lt h), u32_xor_nat _ _ (xor_lt (rot_lt h) (rot_lt h)) (rot_lt h)]
  rfl
theorem sum4 (a b c d : Nat) : IntKind.u32.wrap (IntKind.u32.wrap (IntKind.u32.wrap ((a : Int) + (b : Int)) + (c : Int)) + (d : Int)) = (((a + b + c + d) % 4294967296 : Nat) : Int) := by
  simp only [IntKind.wrap_u32']
  omega
set_option maxHeartbeats 1000000 in
theorem spread_any (b o c : Nat) (l : List UInt8) (w : World) (hs : Sl w 1 (some ⟨b, o, none⟩) 64 (B8 l)) (hb : b < w.heap.size) (hc : 64 ≤ c) (hc2 : c ≤ 9223372036854775807) :
    Calls Try.prog 86 #[.slice (some ⟨b, o, none⟩) 64 c] w fun e w' => e = .returned (.agg (V32 (sched l 64)).toArray) ∧ Below w.heap.size w w' := by
  have hl : l.length = 64 := hs.len8.symm
  obtain ⟨W, hW⟩ : ∃ W, W = (w.alloc (.cells #[.int .u32 0, .int .u32 0, .int .u32 0, .int .u32 0, .int .u32 0, .int .u32 0, .int .u32 0, .int .u32 0, .int .u32 0, .int .u32 0, .int .u32 0, .int .u32 0, .int .u32 0, .int .u32 0, .int .u32 0, .int .u32 0, .int .u32 0, .int .u32 0, .int .u32 0, .int .u32 0, .int .u32 0, .int .u32 0, .int .u32 0, .int .u32 0, .int .u32 0, .int .u32 0, .int .u32 0, .int .u32 0, .int .u32 0, .int .u32 0, .int .u32 0, .int .u32 0, .int .u32 0, .int .u32 0, .int .u32 0, .int .u32 0, .int .u32 0, .int .u32 0, .int .u32 0, .int .u32 0, .int .u32 0, .int .u32 0, .int .u32 0, .int .u32 0, .int .u32 0, .int .u32 0, .int .u32 0, .int .u32 0, .int .u32 0, .int .u32 0, .int .u32 0, .int .u32 0, .int .u32 0, .int .u32 0, .int .u32 0, .int .u32 0, .int .u32 0, .int .u32 0, .int .u32 0, .int .u32 0, .int .u32 0, .int .u32 0, .int .u32 0, .int .u32 0] 107)).alloc (.cells #[.int .u32 0, .int .u32 0, .int .u32 0, .int .u32 0, .int .u32 0, .int .u32 0, .int .u32 0, .int .u32 0, .int .u32 0, .int .u32 0, .int .u32 0, .int .u32 0, .int .u32 0, .int .u32 0, .int .u32 0, .int .u32 0, .int .u32 0, .int .u32 0, .int .u32 0, .int .u32 0, .int .u32 0, .int .u32 0, .int .u32 0, .int .u32 0, .int .u32 0, .int .u32 0, .int .u32 0, .int .u32 0, .int .u32 0, .int .u32 0, .int .u32 0, .int .u32 0, .int .u32 0, .int .u32 0, .int .u32 0, .int .u32 0, .int .u32 0, .int .u32 0, .int .u32 0, .int .u32 0, .int .u32 0, .int .u32 0, .int .u32 0, .int .u32 0, .int .u32 0, .int .u32 0, .int .u32 0, .int .u32 0, .int .u32 0, .int .u32 0, .int .u32 0, .int .u32 0, .int .u32 0, .int .u32 0, .int .u32 0, .int .u32 0, .int .u32 0, .int .u32 0, .int .u32 0, .int .u32 0, .int .u32 0, .int .u32 0, .int .u32 0, .int .u32 0] 107) := ⟨_, rfl⟩
  have hbw : Below w.heap.size w W := by
    subst hW
    exact ((Below.refl _ _).alloc (Nat.le_refl _) _).alloc (by simp) _
  have b2 : Blk W w.heap.size 107 (List.replicate 64 (.int .u32 0)) := by
    subst hW
    exact (Blk.new w #[.int .u32 0, .int .u32 0, .int .u32 0, .int .u32 0, .int .u32 0, .int .u32 0, .int .u32 0, .int .u32 0, .int .u32 0, .int .u32 0, .int .u32 0, .int .u32 0, .int .u32 0, .int .u32 0, .int .u32 0, .int .u32 0, .int .u32 0, .int .u32 0, .int .u32 0, .int .u32 0, .int .u32 0, .int .u32 0, .int .u32 0, .int .u32 0, .int .u32 0, .int .u32 0, .int .u32 0, .int .u32 0, .int .u32 0, .int .u32 0, .int .u32 0, .int .u32 0, .int .u32 0, .int .u32 0, .int .u32 0, .int .u32 0, .int .u32 0, .int .u32 0, .int .u32 0, .int .u32 0, .int .u32 0, .int .u32 0, .int .u32 0, .int .u32 0, .int .u32 0, .int .u32 0, .int .u32 0, .int .u32 0, .int .u32 0, .int .u32 0, .int .u32 0, .int .u32 0, .int .u32 0, .int .u32 0, .int .u32 0, .int .u32 0, .int .u32 0, .int .u32 0, .int .u32 0, .int .u32 0, .int .u32 0, .int .u32 0, .int .u32 0, .int .u32 0] 107).to ((Below.refl _ _).alloc (Nat.le_refl _) _)
  have b3 : Blk W (w.heap.size + 1) 107 (List.replicate 64 (.int .u32 0)) := by
    subst hW
    have := Blk.new (w.alloc (.cells #[.int .u32 0, .int .u32 0, .int .u32 0, .int .u32 0, .int .u32 0, .int .u32 0, .int .u32 0, .int .u32 0, .int .u32 0, .int .u32 0, .int .u32 0, .int .u32 0, .int .u32 0, .int .u32 0, .int .u32 0, .int .u32 0, .int .u32 0, .int .u32 0, .int .u32 0, .int .u32 0, .int .u32 0, .int .u32 0, .int .u32 0, .int .u32 0, .int .u32 0, .int .u32 0, .int .u32 0, .int .u32 0, .int .u32 0, .int .u32 0, .int .u32 0, .int .u32 0, .int .u32 0, .int .u32 0, .int .u32 0, .int .u32 0, .int .u32 0, .int .u32 0, .int .u32 0, .int .u32 0, .int .u32 0, .int .u32 0, .int .u32 0, .int .u32 0, .int .u32 0, .int .u32 0, .int .u32 0, .int .u32 0, .int .u32 0, .int .u32 0, .int .u32 0, .int .u32 0, .int .u32 0, .int .u32 0, .int .u32 0, .int .u32 0, .int .u32 0, .int .u32 0, .int .u32 0, .int .u32 0, .int .u32 0, .int .u32 0, .int .u32 0, .int .u32 0] 107)) #[.int .u32 0, .int .u32 0, .int .u32 0, .int .u32 0, .int .u32 0, .int .u32 0, .int .u32 0, .int .u32 0, .int .u32 0, .int .u32 0, .int .u32 0, .int .u32 0, .int .u32 0, .int .u32 0, .int .u32 0, .int .u32 0, .int .u32 0, .int .u32 0, .int .u32 0, .int .u32 0, .int .u32 0, .int .u32 0, .int .u32 0, .int .u32 0, .int .u32 0, .int .u32 0, .int .u32 0, .int .u32 0, .int .u32 0, .int .u32 0, .int .u32 0, .int .u32 0, .int .u32 0, .int .u32 0, .int .u32 0, .int .u32 0, .int .u32 0, .int .u32 0, .int .u32 0, .int .u32 0, .int .u32 0, .int .u32 0, .int .u32 0, .int .u32 0, .int .u32 0, .int .u32 0, .int .u32 0, .int .u32 0, .int .u32 0, .int .u32 0, .int .u32 0, .int .u32 0, .int .u32 0, .int .u32 0, .int .u32 0, .int .u32 0, .int .u32 0, .int .u32 0, .int .u32 0, .int .u32 0, .int .u32 0, .int .u32 0, .int .u32 0, .int .u32 0] 107
    simpa using this
  have sW := hs.to hbw
  have HW := Lib.hid hW
  have HL := Lib.hid hl
  clear hW hl hs
  go_enter Try.func86, Try.ntmps86
  go_wp2_with fail
  refine wp_at HW.out ?_
  clear HW
  generalize hN : w.heap.size = N at *
  have HN := Lib.hid hN
  clear hN
  go_loopw [8] (fun v wr => ∃ i : Nat, i ≤ 16 ∧ v = .int .i64 i ∧ Blk wr (N + 1) 107 (V32 (sched l i) ++ List.replicate (64 - i) (.int .u32 0)) ∧ RBut (some (N + 1)) W wr) (fun v _ => 16 - (intOf v).toNat)
  case atStart => exact ⟨0, by omega, rfl, by simpa [V32, sched] using b3, RBut.refl_ _ _⟩
  case round =>
    obtain ⟨i, hi, rfl, bi, hbi⟩ := hrel
    by_cases hlt : i < 16
    · have t1 : (i : Int) < 16 := by omega
      obtain ⟨p0, hp0⟩ : ∃ p0 : Nat, p0 = 4 * i := ⟨_, rfl⟩
      obtain ⟨p1, hp1⟩ : ∃ p1 : Nat, p1 = 4 * i + 1 := ⟨_, rfl⟩
      obtain ⟨p2, hp2⟩ : ∃ p2 : Nat, p2 = 4 * i + 2 := ⟨_, rfl⟩
      obtain ⟨p3, hp3⟩ : ∃ p3 : Nat, p3 = 4 * i + 3 := ⟨_, rfl⟩
      have hl := HL.out
      have cel : ∀ p, p < 64 → ∃ y : UInt8, l.getD p 0 = y ∧ ∀ w', RBut (some (N + 1)) wr.drew w' → w'.cell? ⟨b, o + p, none⟩ = some (.int .u8 (y.toNat : Int)) := by
        intro p hp
        refine ⟨l.getD p 0, rfl, fun w' hw' => ?_⟩
        have h1 := (sW.but hbi (fun h => by injection h; omega)).drew.but hw' (fun h => by injection h; omega)
        refine h1.cell ?_
        simp [B8, b8, List.getElem?_eq_getElem (show p < l.length by omega), List.getD]
      obtain ⟨y0, g0, c0⟩ := cel p0 (by omega)
      obtain ⟨y1, g1, c1⟩ := cel p1 (by omega)
      obtain ⟨y2, g2, c2⟩ := cel p2 (by omega)
      obtain ⟨y3, g3, c3⟩ := cel p3 (by omega)
      have hx : w4 l i = y0.toNat * 16777216 + y1.toNat * 65536 + y2.toNat * 256 + y3.toNat := by unfold w4; rw [← hp3, ← hp2, ← hp1, ← hp0, g0, g1, g2, g3]
      have HX := Lib.hid hx
      have l0 : (p0 : Int) < 64 := by omega
      have t64 : (i : Int) < 64 := by omega
      have l1 : (p1 : Int) < 64 := by omega
      have l2 : (p2 : Int) < 64 := by omega
      have l3 : (p3 : Int) < 64 := by omega
      have v0 : IntKind.i64.wrap (4 * (i : Int)) = (p0 : Int) := by rw [IntWalk.i64_in _ (by omega)]; omega
      have v1 : IntKind.i64.wrap ((p0 : Int) + 1) = (p1 : Int) := by rw [IntWalk.i64_in _ (by omega)]; omega
      have v2 : IntKind.i64.wrap ((p0 : Int) + 2) = (p2 : Int) := by rw [IntWalk.i64_in _ (by omega)]; omega
      have v3 : IntKind.i64.wrap ((p0 : Int) + 3) = (p3 : Int) := by rw [IntWalk.i64_in _ (by omega)]; omega
      have bi' : Blk wr.drew (N + 1) 107 (V32 (sched l i) ++ List.replicate (64 - i) (.int .u32 0)) := bi
      have hbi' := RBut.trans_ _ _ _ _ hbi (RBut.of_below (Below.refl _ _).drew)
      clear hl cel g0 g1 g2 g3 hx hp0 hp1 hp2 hp3 bi hbi
      go_wp2_with fail
      refine wp_region_C [(0, true), (1, true), (2, true), (3, true), (4, true), (5, true), (6, true), (7, true), (8, true), (9, true), (10, true), (11, true), (12, true), (13, true), (14, true), (15, true), (16, true), (17, true), (18, true), (19, true), (20, true), (21, true), (22, true), (23, true), (24, true), (25, true), (26, true), (27, false), (28, false), (29, false), (30, false), (31, false), (32, false), (33, false), (34, false), (35, false)] (RBut (some (N + 1))) (by kernel_rfl) (by kernel_rfl) (by kernel_rfl) (by decide) (RBut.refl_ _) (RBut.trans_ _) (by intro d v c a w h; cases d <;> exact h) ?_
      generalize wr.drew = wd at *
      have d3 := c3 wd (RBut.refl_ _ _)
      have BW := be_word y0 y1 y2 y3
      rw [← HX.out] at BW
      repeat (first | (refine wpC_quiet (v := ?_) rfl (by rfl) ?_ ?_; rotate_left; (· (intro w' hw'; go_simp; try with_reducible rfl)); simp only [Act.put, List.setIfInBounds_toArray, List.set_cons_zero, List.set_cons_succ]) | (refine wpC_val (v := ?_) (RBut.refl_ _) rfl (by rfl) ?_ ?_; rotate_left; (· (go_simp; try with_reducible rfl)); simp only [Act.put, List.setIfInBounds_toArray, List.set_cons_zero, List.set_cons_succ]) | (refine wpC_skip rfl (by rfl) ?_; simp only [Act.put, List.setIfInBounds_toArray, List.set_cons_zero, List.set_cons_succ]) | (refine wpC_skip' (RBut.refl_ _) rfl (by rfl) ?_; simp only [Act.put, List.setIfInBounds_toArray, List.set_cons_zero, List.set_cons_succ]))
      have ce : wd.cell? ⟨N + 1, i, none⟩ = some (.int .u32 0) := by rw [bi'.cell, List.getElem?_append_right (by rw [V32_len, sched_len]; omega), V32_len, sched_len, Nat.sub_self, List.getElem?_replicate, if_pos (by omega)]
      have fe := bi'.fz i
      (refine wpC_loud rfl (by rfl) ?_; intro K hK; go_simp)
      (refine hK.out _ _ (RBut.setC _ _ _ _) ?_; clear hK K; try simp only [Act.put, List.setIfInBounds_toArray, List.set_cons_zero, List.set_cons_succ])
      have bj := bi'.set_ i (.int .u32 ((w4 l i : Nat) : Int))
      rw [fill_set _ i (64 - i) _ _ (sched_len l i) (by omega)] at bj
      have hbj := RBut.trans_ _ _ _ _ hbi' (RBut.setC wd (N + 1) i (.int .u32 ((w4 l i : Nat) : Int)))
      refine wpC_nil ?_
      clear ce fe BW
      go_wp2
      go_roundw
      case rel => exact ⟨i + 1, by omega, by go_num, by rw [sched_lo l i hlt]; exact bj, hbj⟩
      case measure => simp [intOf]; omega
    · have t1 : ¬ (i : Int) < 16 := by omega
      obtain rfl : i = 16 := by omega
      go_wp2_with fail
      go_loopw [5] (fun v wr => ∃ i : Nat, 16 ≤ i ∧ i ≤ 64 ∧ v = .int .i64 i ∧ Blk wr (N + 1) 107 (V32 (sched l i) ++ List.replicate (64 - i) (.int .u32 0)) ∧ RBut (some (N + 1)) W wr) (fun v _ => 64 - (intOf v).toNat)
      case atStart => exact ⟨16, by omega, by omega, rfl, bi, hbi⟩
      case round =>
        clear bi hbi hi hlt t1
        obtain ⟨i, hi16, hi, rfl, bi, hbi⟩ := hrel
        by_cases hlt : i < 64
        · have t1 : (i : Int) < 64 := by omega
          go_wp2_with fail
          have hS : ∀ j, j < i → ∃ x, (sched l i).getD j 0 = x ∧ ∀ w', RBel wr.drew w' → w'.cell? ⟨N + 1, j, none⟩ = some (.int .u32 (x : Int)) := by
            intro j hj
            refine ⟨(sched l i).getD j 0, rfl, fun w' hw' => ?_⟩
            have hbk : Blk w' (N + 1) 107 (V32 (sched l i) ++ List.replicate (64 - i) (.int .u32 0)) := Blk.to (w := wr.drew) bi hw'
            rw [hbk.cell, List.getElem?_append_left (by rw [V32_len, sched_len]; omega)]
            exact V32_get (by rw [List.getD, List.getElem?_eq_getElem (by rw [sched_len]; omega)]; rfl)
          have hB : ∀ j, (sched l i).getD j 0 < 4294967296 := fun j => sched_lt l i j
          obtain ⟨q16, h16⟩ : ∃ q, q = i - 16 := ⟨_, rfl⟩
          obtain ⟨q15, h15⟩ : ∃ q, q = i - 15 := ⟨_, rfl⟩
          obtain ⟨q7, h7⟩ : ∃ q, q = i - 7 := ⟨_, rfl⟩
          obtain ⟨q2, h2⟩ : ∃ q, q = i - 2 := ⟨_, rfl⟩
          obtain ⟨x16, g16, c16⟩ := hS q16 (by omega)
          obtain ⟨x15, g15, c15⟩ := hS q15 (by omega)
          obtain ⟨x7, g7, c7⟩ := hS q7 (by omega)
          obtain ⟨x2, g2, c2⟩ := hS q2 (by omega)
          have k16 := hB q16
          have k15 := hB q15
          have k7 := hB q7
          have k2 := hB q2
          rw [g16] at k16
          rw [g15] at k15
          rw [g7] at k7
          rw [g2] at k2
          have hx : nextW (sched l i) i = (x16 + lsig0 x15 + x7 + lsig1 x2) % 4294967296 := by unfold nextW; rw [← h16, ← h15, ← h7, ← h2, g16, g15, g7, g2]
          have HX := Lib.hid hx
          have l16 : (q16 : Int) < 64 := by omega
          have l15 : (q15 : Int) < 64 := by omega
          have l7 : (q7 : Int) < 64 := by omega
          have l2 : (q2 : Int) < 64 := by omega
          have v16 : IntKind.i64.wrap ((i : Int) - 16) = (q16 : Int) := by rw [IntWalk.i64_in _ (by omega)]; omega
          have v15 : IntKind.i64.wrap ((i : Int) - 15) = (q15 : Int) := by rw [IntWalk.i64_in _ (by omega)]; omega
          have v7 : IntKind.i64.wrap ((i : Int) - 7) = (q7 : Int) := by rw [IntWalk.i64_in _ (by omega)]; omega
          have v2 : IntKind.i64.wrap ((i : Int) - 2) = (q2 : Int) := by rw [IntWalk.i64_in _ (by omega)]; omega
          have d16 : q16 ≠ i := by omega
          have d7 : q7 ≠ i := by omega
          have bi' : Blk wr.drew (N + 1) 107 (V32 (sched l i) ++ List.replicate (64 - i) (.int .u32 0)) := bi
          have hbi' := RBut.trans_ _ _ _ _ hbi (RBut.of_below (Below.refl _ _).drew)
          have e16 := c16 _ (RBel.refl_ _)
          have e7 := c7 _ (RBel.refl_ _)
          clear c16 c7 hS hB g16 g15 g7 g2 hx h16 h15 h7 h2 bi hbi
          refine wp_region_C [(0, true), (1, true), (2, true), (3, true), (4, true), (5, true), (6, true), (7, true), (8, false), (9, false)] RBel (by kernel_rfl) (by kernel_rfl) (by kernel_rfl) (by decide) RBel.refl_ RBel.trans_ (by intro d v c a w h; cases d <;> exact h) ?_
          generalize wr.drew = wd at *
          repeat (first | (refine wpC_quiet (v := ?_) rfl (by rfl) ?_ ?_; rotate_left; (· (intro w' hw'; go_simp; try with_reducible rfl)); simp only [Act.put, List.setIfInBounds_toArray, List.set_cons_zero, List.set_cons_succ]) | (refine wpC_val (v := ?_) (RBel.refl_) rfl (by rfl) ?_ ?_; rotate_left; (· (go_simp; try with_reducible rfl)); simp only [Act.put, List.setIfInBounds_toArray, List.set_cons_zero, List.set_cons_succ]) | (refine wpC_skip rfl (by rfl) ?_; simp only [Act.put, List.setIfInBounds_toArray, List.set_cons_zero, List.set_cons_succ]) | (refine wpC_skip' (RBel.refl_) rfl (by rfl) ?_; simp only [Act.put, List.setIfInBounds_toArray, List.set_cons_zero, List.set_cons_succ]))
          refine wpC_nil ?_
          clear c15 c2
          go_wp2_with fail
          have e16' : ∀ w', RCell (N + 1) i wd.drew w' → w'.cell? ⟨N + 1, q16, none⟩ = some (.int .u32 (x16 : Int)) := fun w' hw' => (hw'.2 q16 d16).trans e16
          have e7' : ∀ w', RCell (N + 1) i wd.drew w' → w'.cell? ⟨N + 1, q7, none⟩ = some (.int .u32 (x7 : Int)) := fun w' hw' => (hw'.2 q7 d7).trans e7
          have bi'' : Blk wd.drew (N + 1) 107 (V32 (sched l i) ++ List.replicate (64 - i) (.int .u32 0)) := bi'
          have hbi'' := RBut.trans_ _ _ _ _ hbi' (RBut.of_below (Below.refl _ _).drew)
          clear e16 e7 d16 d7 bi' hbi' v15 v2
          refine wp_region_C [(0, true), (1, true), (2, true), (3, true), (4, true), (5, true), (7, true), (10, true), (11, true), (14, true), (15, true), (16, true), (17, true), (19, true), (21, true), (24, true), (25, true), (6, false), (8, false), (9, true), (12, true), (13, true), (18, true), (20, false), (22, false), (23, false), (26, false), (27, false), (28, false), (29, false)] (RCell (N + 1) i) (by kernel_rfl) (by kernel_rfl) (by kernel_rfl) (by decide) (RCell.refl_ _ _) (RCell.trans_ _ _) (by intro d v c a w h; cases d <;> exact h) ?_
          generalize wd.drew = we at *
          have Y0 := lsig0_bits x15 k15
          have Y1 := lsig1_bits x2 k2
          have Y2 := sum4 x16 (lsig0 x15) x7 (lsig1 x2)
          rw [← HX.out] at Y2
          repeat (first | (refine wpC_quiet (v := ?_) rfl (by rfl) ?_ ?_; rotate_left; (· (intro w' hw'; go_simp; try with_reducible rfl)); simp only [Act.put, List.setIfInBounds_toArray, List.set_cons_zero, List.set_cons_succ]) | (refine wpC_val (v := ?_) (RCell.refl_ _ _) rfl (by rfl) ?_ ?_; rotate_left; (· (go_simp; try with_reducible rfl)); simp only [Act.put, List.setIfInBounds_toArray, List.set_cons_zero, List.set_cons_succ]) | (refine wpC_skip rfl (by rfl) ?_; simp only [Act.put, List.setIfInBounds_toArray, List.set_cons_zero, List.set_cons_succ]) | (refine wpC_skip' (RCell.refl_ _ _) rfl (by rfl) ?_; simp only [Act.put, List.setIfInBounds_toArray, List.set_cons_zero, List.set_cons_succ]))
          (refine wpC_loud rfl (by rfl) ?_; intro K hK; go_simp)
          refine (right_any x15 7 _ k15 (by omega) (by omega)).mono ?_
          rintro e w' ⟨rfl, rfl⟩
          (refine hK.out _ _ (RCell.refl_ _ _ _) ?_; clear hK K; try simp only [Act.put, List.setIfInBounds_toArray, List.set_cons_zero, List.set_cons_succ])
          (refine wpC_loud rfl (by rfl) ?_; intro K hK; go_simp)
          refine (right_any x15 18 _ k15 (by omega) (by omega)).mono ?_
          rintro e w' ⟨rfl, rfl⟩
          (refine hK.out _ _ (RCell.refl_ _ _ _) ?_; clear hK K; try simp only [Act.put, List.setIfInBounds_toArray, List.set_cons_zero, List.set_cons_succ])
          repeat (first | (refine wpC_quiet (v := ?_) rfl (by rfl) ?_ ?_; rotate_left; (· (intro w' hw'; go_simp; try with_reducible rfl)); simp only [Act.put, List.setIfInBounds_toArray, List.set_cons_zero, List.set_cons_succ]) | (refine wpC_val (v := ?_) (RCell.refl_ _ _) rfl (by rfl) ?_ ?_; rotate_left; (· (go_simp; try with_reducible rfl)); simp only [Act.put, List.setIfInBounds_toArray, List.set_cons_zero, List.set_cons_succ]) | (refine wpC_skip rfl (by rfl) ?_; simp only [Act.put, List.setIfInBounds_toArray, List.set_cons_zero, List.set_cons_succ]) | (refine wpC_skip' (RCell.refl_ _ _) rfl (by rfl) ?_; simp only [Act.put, List.setIfInBounds_toArray, List.set_cons_zero, List.set_cons_succ]))
          (refine wpC_loud rfl (by rfl) ?_; intro K hK; go_simp)
          refine (right_any x2 17 _ k2 (by omega) (by omega)).mono ?_
          rintro e w' ⟨rfl, rfl⟩
          (refine hK.out _ _ (RCell.refl_ _ _ _) ?_; clear hK K; try simp only [Act.put, List.setIfInBounds_toArray, List.set_cons_zero, List.set_cons_succ])
          (refine wpC_loud rfl (by rfl) ?_; intro K hK; go_simp)
          refine (right_any x2 19 _ k2 (by omega) (by omega)).mono ?_
          rintro e w' ⟨rfl, rfl⟩
          (refine hK.out _ _ (RCell.refl_ _ _ _) ?_; clear hK K; try simp only [Act.put, List.setIfInBounds_toArray, List.set_cons_zero, List.set_cons_succ])
          repeat (first | (refine wpC_quiet (v := ?_) rfl (by rfl) ?_ ?_; rotate_left; (· (intro w' hw'; go_simp; try with_reducible rfl)); simp only [Act.put, List.setIfInBounds_toArray, List.set_cons_zero, List.set_cons_succ]) | (refine wpC_val (v := ?_) (RCell.refl_ _ _) rfl (by rfl) ?_ ?_; rotate_left; (· (go_simp; try with_reducible rfl)); simp only [Act.put, List.setIfInBounds_toArray, List.set_cons_zero, List.set_cons_succ]) | (refine wpC_skip rfl (by rfl) ?_; simp only [Act.put, List.setIfInBounds_toArray, List.set_cons_zero, List.set_cons_succ]) | (refine wpC_skip' (RCell.refl_ _ _) rfl (by rfl) ?_; simp only [Act.put, List.setIfInBounds_toArray, List.set_cons_zero, List.set_cons_succ]))
          have ce : we.cell? ⟨N + 1, i, none⟩ = some (.int .u32 0) := by rw [bi''.cell, List.getElem?_append_right (by rw [V32_len, sched_len]; omega), V32_len, sched_len, Nat.sub_self, List.getElem?_replicate, if_pos (by omega)]
          have fe := bi''.fz i
          (refine wpC_loud rfl (by rfl) ?_; intro K hK; go_simp)
          (refine hK.out _ _ (RCell.set_ bi'' _) ?_; clear hK K; try simp only [Act.put, List.setIfInBounds_toArray, List.set_cons_zero, List.set_cons_succ])
          have bj := bi''.set_ i (.int .u32 ((nextW (sched l i) i : Nat) : Int))
          rw [fill_set _ i (64 - i) _ _ (sched_len l i) (by omega)] at bj
          have hbj := RBut.trans_ _ _ _ _ hbi'' (RBut.setC we (N + 1) i (.int .u32 ((nextW (sched l i) i : Nat) : Int)))
          refine wpC_nil ?_
          clear ce fe Y0 Y1 Y2
          go_wp2
          go_roundw
          case rel => exact ⟨i + 1, by omega, by omega, by go_num, by rw [sched_hi l i hi16]; exact bj, hbj⟩
          case measure => simp [intOf]; omega
        · have t1 : ¬ (i : Int) < 64 := by omega
          obtain rfl : i = 64 := by omega
          go_wp2_with (first
            | (refine wpl_load_blk rfl _ _ rfl _ rfl 107 (V32 (sched l 64)) _ (by simpa using bi) Try.underlying107 rfl (by rw [V32_len, sched_len]; kernel_rfl) ?_)
            | (refine wpl_store_blk rfl _ _ _ rfl N 107 (List.replicate 64 (.int .u32 0)) (V32 (sched l 64)) rfl rfl (b2.but hbi (fun h => by injection h; omega)) (by rw [V32_len, sched_len]; rfl) (by rw [V32_len, sched_len]; kernel_rfl) (V32_one _) ?_; intro w4 b4 hb4))
          exact bodyPost_ret (v := .agg (V32 (sched l 64)).toArray) (results_blk Try.results86 rfl b4 Try.underlying107 rfl (by rw [V32_len, sched_len]; kernel_rfl)) rfl ⟨rfl, by
            rw [HN.out]
            exact Below.trans hbw (Below.trans (below_but hbi (by omega) (HN.out ▸ hbw.size)) (below_but hb4 (Nat.le_refl _) (Nat.le_trans (HN.out ▸ hbw.size) hbi.size)))⟩
end Go.Proofs.Ytdopgooglicaiaa
/- Walks: sha.keys, sha.begun; laws of a round. -/
set_option linter.unusedSimpArgs false
set_option linter.unusedVariables false
namespace Go.Proofs.Ytdopgooglicaiaa
open Go.RowKit
set_option maxRecDepth 100000
theorem info_64 {l : List Nat} (h : l.length = 64) : (Try.prog.info? 107).map (·.size) = some (V32 l).length := by rw [V32_len, h]; kernel_rfl
theorem info_8 {l : List Nat} (h : l.length = 8) : (Try.prog.info? 109).map (·.size) = some (V32 l).length := by rw [V32_len, h]; kernel_rfl
theorem info_st {l : List Nat} (h : l.length = 8) : (Try.prog.info? 125).map (·.size) = some (V32 l).length := by rw [V32_len, h]; kernel_rfl
set_option maxRecDepth 100000 in
set_option maxHeartbeats 1000000 in
theorem keys_any (w : World) : Calls Try.prog 87 #[] w fun e w' => e = .returned (.agg (V32 shaKs).toArray) ∧ Below w.heap.size w w' := by
  go_enter Try.func87, Try.ntmps87
  go_wp2_with (refine wpl_store_new rfl _ _ _ rfl 107 _ (V32 shaKs) rfl (by kernel_rfl) (by kernel_rfl) (info_64 (by kernel_rfl)) (V32_one _) ?_; intro w4 b4 hb4)
  exact bodyPost_ret (v := .agg (V32 shaKs).toArray) (results_blk Try.results87 rfl b4 Try.underlying107 rfl (info_64 (by kernel_rfl))) rfl ⟨rfl, hb4⟩
set_option maxRecDepth 100000 in
theorem begun_any (w : World) : Calls Try.prog 82 #[] w fun e w' => e = .returned (.agg (V32 shaBegun.list).toArray) ∧ Below w.heap.size w w' := by
  go_enter Try.func82, Try.ntmps82
  go_wp2_with (refine wpl_store_new rfl _ _ _ rfl 125 _ (V32 shaBegun.list) rfl (by kernel_rfl) rfl (info_st rfl) (V32_one _) ?_; intro w4 b4 hb4)
  exact bodyPost_ret (v := .agg (V32 shaBegun.list).toArray) (results_blk Try.results82 rfl b4 Try.underlying125 rfl (info_st rfl)) rfl ⟨rfl, hb4⟩
theorem Blk.at_ {w : World} {p : Nat} {t : TypeId} {cs : List Value} (hb : Blk w p t cs) (k : Nat) {v : Value} (h : cs[k]? = some v) : ∀ w', RBel w w' → w'.cell? ⟨p, k, none⟩ = some v := fun w' hw' => by rw [(hb.to hw').cell, h]
theorem sum5 (a b c d e : Nat) : IntKind.u32.wrap (IntKind.u32.wrap (IntKind.u32.wrap (IntKind.u32.wrap ((a : Int) + (b : Int)) + (c : Int)) + (d : Int)) + (e : Int)) = (((a + b + c + d + e) % 4294967296 : Nat) : Int) := by
  simp only [IntKind.wrap_u32']
  omega
theorem sum2 (a b : Nat) : IntKind.u32.wrap ((a : Int) + (b : Int)) = (((a + b) % 4294967296 : Nat) : Int) := by
  simp only [IntKind.wrap_u32']
  omega
theorem max_u32 : IntKind.u32.max = 4294967295 := rfl
theorem xor_all32 (x : Nat) (h : x < 4294967296) : 4294967295 ^^^ x = 4294967295 - x := by
  have e := congrArg BitVec.toNat (BitVec.allOnes_xor (x := BitVec.ofNat 32 x))
  rw [BitVec.toNat_xor, BitVec.toNat_not, BitVec.toNat_allOnes, BitVec.toNat_ofNat] at e
  simp only [Nat.reducePow, Nat.add_one_sub_one] at e
  rw [Nat.mod_eq_of_lt h] at e
  exact e
theorem chs_bits (e f g : Nat) (he : e < 4294967296) (hf : f < 4294967296) (hg : g < 4294967296) : bits .xor .u32 (bits .and .u32 (e : Int) (f : Int)) (bits .and .u32 (bits .xor .u32 IntKind.u32.max (e : Int)) (g : Int)) = ((chs e f g : Nat) : Int) := by
  rw [max_u32, show (4294967295 : Int) = ((4294967295 : Nat) : Int) from rfl, u32_xor_nat _ _ (by decide) he, xor_all32 e he, u32_and_nat _ _ he hf, u32_and_nat _ _ (by omega) hg, u32_xor_nat _ _ (and_lt he) (and_lt (by omega))]
  rfl
theorem maj_bits (a b c : Nat) (ha : a < 4294967296) (hb : b < 4294967296) (hc : c < 4294967296) : bits .xor .u32 (bits .xor .u32 (bits .and .u32 (a : Int) (b : Int)) (bits .and .u32 (a : Int) (c : Int))) (bits .and .u32 (b : Int) (c : Int)) = ((maj a b c : Nat) : Int) := by
  rw [u32_and_nat _ _ ha hb, u32_and_nat _ _ ha hc, u32_and_nat _ _ hb hc, u32_xor_nat _ _ (and_lt ha) (and_lt ha), u32_xor_nat _ _ (xor_lt (and_lt ha) (and_lt ha)) (and_lt hb)]
  rfl
def S8.ok (s : S8) : Prop := s.a < 4294967296 ∧ s.b < 4294967296 ∧ s.c < 4294967296 ∧ s.d < 4294967296 ∧ s.e < 4294967296 ∧ s.f < 4294967296 ∧ s.g < 4294967296 ∧ s.h < 4294967296
theorem rnd_ok {s : S8} {k w : Nat} (h : s.ok) : (rnd s k w).ok := ⟨Nat.mod_lt _ (by decide), h.1, h.2.1, h.2.2.1, Nat.mod_lt _ (by decide), h.2.2.2.2.1, h.2.2.2.2.2.1, h.2.2.2.2.2.2.1⟩
theorem rnds_ok {s : S8} (ws : List Nat) (h : s.ok) : ∀ i, (rnds ws s i).ok
  | 0 => h
  | i + 1 => rnd_ok (rnds_ok ws h i)
theorem addS_ok (s t : S8) : (addS s t).ok := by
  unfold addS S8.ok
  refine ⟨?_, ?_, ?_, ?_, ?_, ?_, ?_, ?_⟩ <;> exact Nat.mod_lt _ (by decide)
theorem shaKs_lt : ∀ j, shaKs.getD j 0 < 4294967296 := by
  intro j
  have h : ∀ x ∈ shaKs, x < 4294967296 := by decide
  rcases Nat.lt_or_ge j shaKs.length with hj | hj
  · rw [List.getD, List.getElem?_eq_getElem hj]
    exact h _ (List.getElem_mem hj)
  · rw [List.getD, List.getElem?_eq_none hj]
    decide
theorem store8 {w : World} {p : Nat} {t : TypeId} {a b c d e f g h : Value} (hb : Blk w p t [a, b, c, d, e, f, g, h]) (v0 v1 v2 v3 v4 v5 v6 v7 : Value) :
    Blk ((((((((w.setCell ⟨p, 0, none⟩ v0).setCell ⟨p, 1, none⟩ v1).setCell ⟨p, 2, none⟩ v2).setCell ⟨p, 3, none⟩ v3).setCell ⟨p, 4, none⟩ v4).setCell ⟨p, 5, none⟩ v5).setCell ⟨p, 6, none⟩ v6).setCell ⟨p, 7, none⟩ v7) p t [v0, v1, v2, v3, v4, v5, v6, v7] ∧
    RBut (some p) w ((((((((w.setCell ⟨p, 0, none⟩ v0).setCell ⟨p, 1, none⟩ v1).setCell ⟨p, 2, none⟩ v2).setCell ⟨p, 3, none⟩ v3).setCell ⟨p, 4, none⟩ v4).setCell ⟨p, 5, none⟩ v5).setCell ⟨p, 6, none⟩ v6).setCell ⟨p, 7, none⟩ v7) :=
  ⟨(((((((hb.set_ 0 v0).set_ 1 v1).set_ 2 v2).set_ 3 v3).set_ 4 v4).set_ 5 v5).set_ 6 v6).set_ 7 v7,
    RBut.trans_ _ _ _ _ (RBut.trans_ _ _ _ _ (RBut.trans_ _ _ _ _ (RBut.trans_ _ _ _ _ (RBut.trans_ _ _ _ _ (RBut.trans_ _ _ _ _ (RBut.trans_ _ _ _ _ (RBut.setC _ _ _ _) (RBut.setC _ _ _ _)) (RBut.setC _ _ _ _)) (RBut.setC _ _ _ _)) (RBut.setC _ _ _ _)) (RBut.setC _ _ _ _)) (RBut.setC _ _ _ _)) (RBut.setC _ _ _ _)⟩
/-- the sums of the first j words, then the words as they are -/
def mix (t s : S8) (j : Nat) : List Nat := (addS t s).list.take j ++ t.list.drop j
theorem mix_at (t s : S8) (j : Nat) (h : j < 8) : ∃ x y, (mix t s j)[j]? = some x ∧ s.list[j]? = some y ∧ (V32 (mix t s j)).set j (.int .u32 (((x + y) % 4294967296 : Nat) : Int)) = V32 (mix t s (j + 1)) := by
  match j, h with
  | 0, _ => exact ⟨_, _, rfl, rfl, rfl⟩
  | 1, _ => exact ⟨_, _, rfl, rfl, rfl⟩
  | 2, _ => exact ⟨_, _, rfl, rfl, rfl⟩
  | 3, _ => exact ⟨_, _, rfl, rfl, rfl⟩
  | 4, _ => exact ⟨_, _, rfl, rfl, rfl⟩
  | 5, _ => exact ⟨_, _, rfl, rfl, rfl⟩
  | 6, _ => exact ⟨_, _, rfl, rfl, rfl⟩
  | 7, _ => exact ⟨_, _, rfl, rfl, rfl⟩
end Go.Proofs.Ytdopgooglicaiaa
/- The walk of state.add. -/
set_option linter.unusedSimpArgs false
set_option linter.unusedVariables false
namespace Go.Proofs.Ytdopgooglicaiaa
open Go.RowKit
set_option maxRecDepth 100000
set_option maxRecDepth 100000 in
set_option maxHeartbeats 2000000 in
theorem add_any (s : S8) (hok : s.ok) (b o c : Nat) (l : List UInt8) (w : World) (hs : Sl w 1 (some ⟨b, o, none⟩) 64 (B8 l)) (hb : b < w.heap.size) (hc : 64 ≤ c) (hc2 : c ≤ 9223372036854775807) :
    Calls Try.prog 83 #[.agg (V32 s.list).toArray, .slice (some ⟨b, o, none⟩) 64 c] w fun e w' => e = .returned (.agg (V32 (comp s l).list).toArray) ∧ Below w.heap.size w w' := by
  obtain ⟨W, hW⟩ : ∃ W, W = (w.alloc (.cells (V32 s.list).toArray 125)).alloc (.cells #[.int .u32 0, .int .u32 0, .int .u32 0, .int .u32 0, .int .u32 0, .int .u32 0, .int .u32 0, .int .u32 0] 125) := ⟨_, rfl⟩
  have hbw : Below w.heap.size w W := by
    subst hW
    exact ((Below.refl _ _).alloc (Nat.le_refl _) _).alloc (by simp) _
  have b2 : Blk W w.heap.size 125 (V32 s.list) := by
    subst hW
    exact (Blk.new w (V32 s.list).toArray 125).to ((Below.refl _ _).alloc (Nat.le_refl _) _)
  have b4 : Blk W (w.heap.size + 1) 125 (List.replicate 8 (.int .u32 0)) := by
    subst hW
    have := Blk.new (w.alloc (.cells (V32 s.list).toArray 125)) #[.int .u32 0, .int .u32 0, .int .u32 0, .int .u32 0, .int .u32 0, .int .u32 0, .int .u32 0, .int .u32 0] 125
    simpa using this
  have sW := hs.to hbw
  have HW := Lib.hid hW
  clear hW hs
  go_enter Try.func83, Try.ntmps83
  go_upto_region 1 with fail
  refine wp_at HW.out ?_
  clear HW
  generalize hN : w.heap.size = N at *
  have HN := Lib.hid hN
  clear hN
  have hNW : N + 1 < W.heap.size := b4.lt
  go_wp2_with fail
  refine (spread_any b o c l W sW (by omega) hc hc2).mono ?_
  rintro e w1 ⟨rfl, hb1⟩
  go_wp2_with fail
  obtain ⟨ks, hks⟩ : ∃ ks, ks = shaKs := ⟨_, rfl⟩
  have K := keys_any w1
  rw [← hks] at K
  have hkl : ks.length = 64 := by rw [hks]; rfl
  refine K.mono ?_
  clear K
  rintro e w2 ⟨rfl, hb2⟩
  obtain ⟨ws, hws⟩ : ∃ ws, ws = sched l 64 := ⟨_, rfl⟩
  have hwl : ws.length = 64 := by rw [hws, sched_len]
  rw [← hws]
  have HKS := Lib.hid hks
  have HWS := Lib.hid hws
  have HKL := Lib.hid hkl
  have HWL := Lib.hid hwl
  obtain ⟨Y, hY⟩ : ∃ Y, Y = (w2.alloc (.cells #[.int .u32 0, .int .u32 0, .int .u32 0, .int .u32 0, .int .u32 0, .int .u32 0, .int .u32 0, .int .u32 0, .int .u32 0, .int .u32 0, .int .u32 0, .int .u32 0, .int .u32 0, .int .u32 0, .int .u32 0, .int .u32 0, .int .u32 0, .int .u32 0, .int .u32 0, .int .u32 0, .int .u32 0, .int .u32 0, .int .u32 0, .int .u32 0, .int .u32 0, .int .u32 0, .int .u32 0, .int .u32 0, .int .u32 0, .int .u32 0, .int .u32 0, .int .u32 0, .int .u32 0, .int .u32 0, .int .u32 0, .int .u32 0, .int .u32 0, .int .u32 0, .int .u32 0, .int .u32 0, .int .u32 0, .int .u32 0, .int .u32 0, .int .u32 0, .int .u32 0, .int .u32 0, .int .u32 0, .int .u32 0, .int .u32 0, .int .u32 0, .int .u32 0, .int .u32 0, .int .u32 0, .int .u32 0, .int .u32 0, .int .u32 0, .int .u32 0, .int .u32 0, .int .u32 0, .int .u32 0, .int .u32 0, .int .u32 0, .int .u32 0, .int .u32 0] 107)).alloc (.cells #[.int .u32 0, .int .u32 0, .int .u32 0, .int .u32 0, .int .u32 0, .int .u32 0, .int .u32 0, .int .u32 0, .int .u32 0, .int .u32 0, .int .u32 0, .int .u32 0, .int .u32 0, .int .u32 0, .int .u32 0, .int .u32 0, .int .u32 0, .int .u32 0, .int .u32 0, .int .u32 0, .int .u32 0, .int .u32 0, .int .u32 0, .int .u32 0, .int .u32 0, .int .u32 0, .int .u32 0, .int .u32 0, .int .u32 0, .int .u32 0, .int .u32 0, .int .u32 0, .int .u32 0, .int .u32 0, .int .u32 0, .int .u32 0, .int .u32 0, .int .u32 0, .int .u32 0, .int .u32 0, .int .u32 0, .int .u32 0, .int .u32 0, .int .u32 0, .int .u32 0, .int .u32 0, .int .u32 0, .int .u32 0, .int .u32 0, .int .u32 0, .int .u32 0, .int .u32 0, .int .u32 0, .int .u32 0, .int .u32 0, .int .u32 0, .int .u32 0, .int .u32 0, .int .u32 0, .int .u32 0, .int .u32 0, .int .u32 0, .int .u32 0, .int .u32 0] 107) := ⟨_, rfl⟩
  have y5 : Blk Y w2.heap.size 107 (List.replicate 64 (.int .u32 0)) := by
    subst hY
    exact (Blk.new w2 #[.int .u32 0, .int .u32 0, .int .u32 0, .int .u32 0, .int .u32 0, .int .u32 0, .int .u32 0, .int .u32 0, .int .u32 0, .int .u32 0, .int .u32 0, .int .u32 0, .int .u32 0, .int .u32 0, .int .u32 0, .int .u32 0, .int .u32 0, .int .u32 0, .int .u32 0, .int .u32 0, .int .u32 0, .int .u32 0, .int .u32 0, .int .u32 0, .int .u32 0, .int .u32 0, .int .u32 0, .int .u32 0, .int .u32 0, .int .u32 0, .int .u32 0, .int .u32 0, .int .u32 0, .int .u32 0, .int .u32 0, .int .u32 0, .int .u32 0, .int .u32 0, .int .u32 0, .int .u32 0, .int .u32 0, .int .u32 0, .int .u32 0, .int .u32 0, .int .u32 0, .int .u32 0, .int .u32 0, .int .u32 0, .int .u32 0, .int .u32 0, .int .u32 0, .int .u32 0, .int .u32 0, .int .u32 0, .int .u32 0, .int .u32 0, .int .u32 0, .int .u32 0, .int .u32 0, .int .u32 0, .int .u32 0, .int .u32 0, .int .u32 0, .int .u32 0] 107).to ((Below.refl _ _).alloc (Nat.le_refl _) _)
  have y6 : Blk Y (w2.heap.size + 1) 107 (List.replicate 64 (.int .u32 0)) := by
    subst hY
    have := Blk.new (w2.alloc (.cells #[.int .u32 0, .int .u32 0, .int .u32 0, .int .u32 0, .int .u32 0, .int .u32 0, .int .u32 0, .int .u32 0, .int .u32 0, .int .u32 0, .int .u32 0, .int .u32 0, .int .u32 0, .int .u32 0, .int .u32 0, .int .u32 0, .int .u32 0, .int .u32 0, .int .u32 0, .int .u32 0, .int .u32 0, .int .u32 0, .int .u32 0, .int .u32 0, .int .u32 0, .int .u32 0, .int .u32 0, .int .u32 0, .int .u32 0, .int .u32 0, .int .u32 0, .int .u32 0, .int .u32 0, .int .u32 0, .int .u32 0, .int .u32 0, .int .u32 0, .int .u32 0, .int .u32 0, .int .u32 0, .int .u32 0, .int .u32 0, .int .u32 0, .int .u32 0, .int .u32 0, .int .u32 0, .int .u32 0, .int .u32 0, .int .u32 0, .int .u32 0, .int .u32 0, .int .u32 0, .int .u32 0, .int .u32 0, .int .u32 0, .int .u32 0, .int .u32 0, .int .u32 0, .int .u32 0, .int .u32 0, .int .u32 0, .int .u32 0, .int .u32 0, .int .u32 0] 107)) #[.int .u32 0, .int .u32 0, .int .u32 0, .int .u32 0, .int .u32 0, .int .u32 0, .int .u32 0, .int .u32 0, .int .u32 0, .int .u32 0, .int .u32 0, .int .u32 0, .int .u32 0, .int .u32 0, .int .u32 0, .int .u32 0, .int .u32 0, .int .u32 0, .int .u32 0, .int .u32 0, .int .u32 0, .int .u32 0, .int .u32 0, .int .u32 0, .int .u32 0, .int .u32 0, .int .u32 0, .int .u32 0, .int .u32 0, .int .u32 0, .int .u32 0, .int .u32 0, .int .u32 0, .int .u32 0, .int .u32 0, .int .u32 0, .int .u32 0, .int .u32 0, .int .u32 0, .int .u32 0, .int .u32 0, .int .u32 0, .int .u32 0, .int .u32 0, .int .u32 0, .int .u32 0, .int .u32 0, .int .u32 0, .int .u32 0, .int .u32 0, .int .u32 0, .int .u32 0, .int .u32 0, .int .u32 0, .int .u32 0, .int .u32 0, .int .u32 0, .int .u32 0, .int .u32 0, .int .u32 0, .int .u32 0, .int .u32 0, .int .u32 0, .int .u32 0] 107
    simpa using this
  have hbY : Below w2.heap.size w2 Y := by
    subst hY
    exact ((Below.refl _ _).alloc (Nat.le_refl _) _).alloc (by simp) _
  have HY := Lib.hid hY
  clear hY hks hws hkl hwl
  go_upto_region 2 with (first
    | (refine wpl_at HY.out ?_; refine wpl_store_blk rfl _ _ _ rfl w2.heap.size 107 (List.replicate 64 (.int .u32 0)) (V32 ws) rfl rfl y5 (by rw [V32_len, HWL.out, List.length_replicate]) (info_64 HWL.out) (V32_one _) ?_; clear HY; intro Y5 z5 hz5)
    | (refine wpl_store_blk rfl _ _ _ rfl (w2.heap.size + 1) 107 (List.replicate 64 (.int .u32 0)) (V32 ks) rfl rfl (y6.but hz5 (fun h => by injection h; omega)) (by rw [V32_len, HKL.out, List.length_replicate]) (info_64 HKL.out) (V32_one _) ?_; intro V z6 hz6))
  have hY5 : Below w2.heap.size w2 Y5 := hbY.trans (below_but hz5 (Nat.le_refl _) hbY.size)
  have hV : Below w2.heap.size w2 V := hY5.trans (below_but hz6 (by omega) hY5.size)
  have hW2 : Below W.heap.size W w2 := hb1.trans (hb2.mono hb1.size)
  have hWV : Below W.heap.size W V := hW2.trans (hV.mono hW2.size)
  have v2 := b2.to hWV
  have v4 := b4.to hWV
  have v5 := z5.but hz6 (fun h => by injection h; omega)
  have hNP : N + 1 < w2.heap.size := Nat.lt_of_lt_of_le hNW hW2.size
  have hPV : w2.heap.size + 1 < V.heap.size := z6.lt
  have hNV : Below N w V := hbw.trans (hWV.mono (by omega))
  clear z5 hz5 hz6 y5 y6 hbY hY5 hV hb1 hb2 hW2 b2 b4 sW hbw hWV
  generalize w2.heap.size = P5 at *
  go_wp2_with (first
    | (refine wpl_load_blk rfl _ _ rfl N rfl 125 (V32 s.list) _ v2 Try.underlying125 rfl (info_st rfl) ?_)
    | (refine wpl_store_new rfl _ _ _ rfl 125 _ (V32 s.list) rfl rfl rfl (info_st rfl) (V32_one _) ?_; intro V7 b7 hb7))
  have v2' := v2.to hb7
  have v4' := v4.to hb7
  have v5' := v5.to hb7
  have v6' := z6.to hb7
  have hNV7 : Below N w V7 := hNV.trans (hb7.mono (by omega))
  generalize hp7 : V.heap.size = p7 at *
  clear hp7 v2 v4 v5 z6 hb7 hNV
  go_loopw [18] (fun v wr => ∃ i : Nat, i ≤ 64 ∧ v = .int .i64 i ∧ Blk wr p7 125 (V32 (rnds ws s i).list) ∧ RBut (some p7) V7 wr) (fun v _ => 64 - (intOf v).toNat)
  case atStart => exact ⟨0, by omega, rfl, b7, RBut.refl_ _ _⟩
  case round =>
    clear b7
    obtain ⟨i, hi, rfl, bi, hbi⟩ := hrel
    by_cases hlt : i < 64
    · have t1 : (i : Int) < 64 := by omega
      have hoki := rnds_ok ws hok i
      have hrn : rnds ws s (i + 1) = rnd (rnds ws s i) (shaKs.getD i 0) (ws.getD i 0) := rfl
      rw [← HKS.out] at hrn
      have hkk : ks.getD i 0 < 4294967296 := by rw [HKS.out]; exact shaKs_lt i
      have hww : ws.getD i 0 < 4294967296 := by rw [HWS.out]; exact sched_lt l 64 i
      have gk : ks[i]? = some (ks.getD i 0) := by have := HKL.out; rw [List.getD, List.getElem?_eq_getElem (by omega)]; rfl
      have gw : ws[i]? = some (ws.getD i 0) := by have := HWL.out; rw [List.getD, List.getElem?_eq_getElem (by omega)]; rfl
      generalize ks.getD i 0 = k at *
      generalize ws.getD i 0 = x at *
      generalize rnds ws s i = u at *
      obtain ⟨ua, ub, uc, ud, ue, uf, ug, uh⟩ := u
      obtain ⟨ka, kb, kc, kd, ke, kf, kg, kh⟩ := hoki
      simp only [S8.list] at bi
      dsimp only at ka kb kc kd ke kf kg kh
      have v5i := v5'.but hbi (fun h => by injection h; omega)
      have v6i := v6'.but hbi (fun h => by injection h; omega)
      have HR := Lib.hid hrn
      have HGK := Lib.hid gk
      have HGW := Lib.hid gw
      clear hrn gk gw
      go_wp2_with fail
      have c0 : ∀ w', RBel wr.drew w' → w'.cell? ⟨p7, 0, none⟩ = some (.int .u32 (ua : Int)) := Blk.at_ (w := wr.drew) bi 0 rfl
      have c4 : ∀ w', RBel wr.drew w' → w'.cell? ⟨p7, 4, none⟩ = some (.int .u32 (ue : Int)) := Blk.at_ (w := wr.drew) bi 4 rfl
      refine wp_region_C [(0, true), (1, true), (2, true), (3, true), (4, false), (5, false)] RBel (by kernel_rfl) (by kernel_rfl) (by kernel_rfl) (by decide) RBel.refl_ RBel.trans_ (by intro d v c a w h; cases d <;> exact h) ?_
      repeat (first | (refine wpC_quiet (v := ?_) rfl (by rfl) ?_ ?_; rotate_left; (· (intro w' hw'; go_simp; try with_reducible rfl)); simp only [Act.put, List.setIfInBounds_toArray, List.set_cons_zero, List.set_cons_succ]) | (refine wpC_val (v := ?_) (RBel.refl_) rfl (by rfl) ?_ ?_; rotate_left; (· (go_simp; try with_reducible rfl)); simp only [Act.put, List.setIfInBounds_toArray, List.set_cons_zero, List.set_cons_succ]) | (refine wpC_skip rfl (by rfl) ?_; simp only [Act.put, List.setIfInBounds_toArray, List.set_cons_zero, List.set_cons_succ]) | (refine wpC_skip' (RBel.refl_) rfl (by rfl) ?_; simp only [Act.put, List.setIfInBounds_toArray, List.set_cons_zero, List.set_cons_succ]))
      refine wpC_nil ?_
      clear c0 c4
      go_wp2_with fail
      have c5 : ∀ w', RBel wr.drew.drew w' → w'.cell? ⟨p7, 5, none⟩ = some (.int .u32 (uf : Int)) := Blk.at_ (w := wr.drew.drew) bi 5 rfl
      have c6 : ∀ w', RBel wr.drew.drew w' → w'.cell? ⟨p7, 6, none⟩ = some (.int .u32 (ug : Int)) := Blk.at_ (w := wr.drew.drew) bi 6 rfl
      have c7 : ∀ w', RBel wr.drew.drew w' → w'.cell? ⟨p7, 7, none⟩ = some (.int .u32 (uh : Int)) := Blk.at_ (w := wr.drew.drew) bi 7 rfl
      have ck : ∀ w', RBel wr.drew.drew w' → w'.cell? ⟨P5 + 1, i, none⟩ = some (.int .u32 (k : Int)) := Blk.at_ (w := wr.drew.drew) v6i i (V32_get HGK.out)
      have cx : ∀ w', RBel wr.drew.drew w' → w'.cell? ⟨P5, i, none⟩ = some (.int .u32 (x : Int)) := Blk.at_ (w := wr.drew.drew) v5i i (V32_get HGW.out)
      have Y0 := usig1_bits ue ke
      have Y1 := chs_bits ue uf ug ke kf kg
      have sg : IntKind.u32.signed = false := rfl
      have Y2 := sum5 uh (usig1 ue) (chs ue uf ug) k x
      obtain ⟨X, hX⟩ : ∃ X, X = (uh + usig1 ue + chs ue uf ug + k + x) % 4294967296 := ⟨_, rfl⟩
      have hXl : X < 4294967296 := by rw [hX]; exact Nat.mod_lt _ (by decide)
      rw [← hX] at Y2
      have HX := Lib.hid hX
      clear hX
      refine wp_region_C [(0, true), (1, true), (2, true), (4, true), (7, true), (11, true), (12, true), (13, true), (14, true), (15, true), (16, true), (17, true), (18, true), (19, true), (20, true), (22, true), (23, true), (24, true), (26, true), (27, true), (28, true), (3, false), (5, false), (6, true), (8, false), (9, false), (10, false), (21, false), (25, false), (29, false), (30, false)] RBel (by kernel_rfl) (by kernel_rfl) (by kernel_rfl) (by decide) RBel.refl_ RBel.trans_ (by intro d v c a w h; cases d <;> exact h) ?_
      repeat (first | (refine wpC_quiet (v := ?_) rfl (by rfl) ?_ ?_; rotate_left; (· (intro w' hw'; go_simp; try with_reducible rfl)); simp only [Act.put, List.setIfInBounds_toArray, List.set_cons_zero, List.set_cons_succ]) | (refine wpC_val (v := ?_) (RBel.refl_) rfl (by rfl) ?_ ?_; rotate_left; (· (go_simp; try with_reducible rfl)); simp only [Act.put, List.setIfInBounds_toArray, List.set_cons_zero, List.set_cons_succ]) | (refine wpC_skip rfl (by rfl) ?_; simp only [Act.put, List.setIfInBounds_toArray, List.set_cons_zero, List.set_cons_succ]) | (refine wpC_skip' (RBel.refl_) rfl (by rfl) ?_; simp only [Act.put, List.setIfInBounds_toArray, List.set_cons_zero, List.set_cons_succ]))
      (refine wpC_loud rfl (by rfl) ?_; intro K hK; go_simp)
      refine (right_any ue 6 _ ke (by omega) (by omega)).mono ?_
      rintro e w' ⟨rfl, rfl⟩
      (refine hK.out _ _ (RBel.refl_ _) ?_; clear hK K; try simp only [Act.put, List.setIfInBounds_toArray, List.set_cons_zero, List.set_cons_succ])
      (refine wpC_loud rfl (by rfl) ?_; intro K hK; go_simp)
      refine (right_any ue 11 _ ke (by omega) (by omega)).mono ?_
      rintro e w' ⟨rfl, rfl⟩
      (refine hK.out _ _ (RBel.refl_ _) ?_; clear hK K; try simp only [Act.put, List.setIfInBounds_toArray, List.set_cons_zero, List.set_cons_succ])
      repeat (first | (refine wpC_quiet (v := ?_) rfl (by rfl) ?_ ?_; rotate_left; (· (intro w' hw'; go_simp; try with_reducible rfl)); simp only [Act.put, List.setIfInBounds_toArray, List.set_cons_zero, List.set_cons_succ]) | (refine wpC_val (v := ?_) (RBel.refl_) rfl (by rfl) ?_ ?_; rotate_left; (· (go_simp; try with_reducible rfl)); simp only [Act.put, List.setIfInBounds_toArray, List.set_cons_zero, List.set_cons_succ]) | (refine wpC_skip rfl (by rfl) ?_; simp only [Act.put, List.setIfInBounds_toArray, List.set_cons_zero, List.set_cons_succ]) | (refine wpC_skip' (RBel.refl_) rfl (by rfl) ?_; simp only [Act.put, List.setIfInBounds_toArray, List.set_cons_zero, List.set_cons_succ]))
      (refine wpC_loud rfl (by rfl) ?_; intro K hK; go_simp)
      refine (right_any ue 25 _ ke (by omega) (by omega)).mono ?_
      rintro e w' ⟨rfl, rfl⟩
      (refine hK.out _ _ (RBel.refl_ _) ?_; clear hK K; try simp only [Act.put, List.setIfInBounds_toArray, List.set_cons_zero, List.set_cons_succ])
      repeat (first | (refine wpC_quiet (v := ?_) rfl (by rfl) ?_ ?_; rotate_left; (· (intro w' hw'; go_simp; try with_reducible rfl)); simp only [Act.put, List.setIfInBounds_toArray, List.set_cons_zero, List.set_cons_succ]) | (refine wpC_val (v := ?_) (RBel.refl_) rfl (by rfl) ?_ ?_; rotate_left; (· (go_simp; try with_reducible rfl)); simp only [Act.put, List.setIfInBounds_toArray, List.set_cons_zero, List.set_cons_succ]) | (refine wpC_skip rfl (by rfl) ?_; simp only [Act.put, List.setIfInBounds_toArray, List.set_cons_zero, List.set_cons_succ]) | (refine wpC_skip' (RBel.refl_) rfl (by rfl) ?_; simp only [Act.put, List.setIfInBounds_toArray, List.set_cons_zero, List.set_cons_succ]))
      refine wpC_nil ?_
      clear c5 c6 c7 ck cx Y0 Y1 Y2 sg
      go_wp2_with fail
      have c0 : ∀ w', RBel wr.drew.drew.drew w' → w'.cell? ⟨p7, 0, none⟩ = some (.int .u32 (ua : Int)) := Blk.at_ (w := wr.drew.drew.drew) bi 0 rfl
      have c1 : ∀ w', RBel wr.drew.drew.drew w' → w'.cell? ⟨p7, 1, none⟩ = some (.int .u32 (ub : Int)) := Blk.at_ (w := wr.drew.drew.drew) bi 1 rfl
      have c2 : ∀ w', RBel wr.drew.drew.drew w' → w'.cell? ⟨p7, 2, none⟩ = some (.int .u32 (uc : Int)) := Blk.at_ (w := wr.drew.drew.drew) bi 2 rfl
      have Y0 := usig0_bits ua ka
      have Y1 := maj_bits ua ub uc ka kb kc
      have Y2 := sum2 (usig0 ua) (maj ua ub uc)
      obtain ⟨Y, hY⟩ : ∃ Y, Y = (usig0 ua + maj ua ub uc) % 4294967296 := ⟨_, rfl⟩
      have hYl : Y < 4294967296 := by rw [hY]; exact Nat.mod_lt _ (by decide)
      rw [← hY] at Y2
      have HY := Lib.hid hY
      clear hY
      refine wp_region_C [(0, true), (2, true), (5, true), (8, true), (9, true), (10, true), (11, true), (12, true), (13, true), (14, true), (15, true), (16, true), (17, true), (18, true), (19, true), (20, true), (21, true), (22, true), (1, false), (3, false), (4, true), (6, false), (7, false), (23, false), (24, false)] RBel (by kernel_rfl) (by kernel_rfl) (by kernel_rfl) (by decide) RBel.refl_ RBel.trans_ (by intro d v c a w h; cases d <;> exact h) ?_
      repeat (first | (refine wpC_quiet (v := ?_) rfl (by rfl) ?_ ?_; rotate_left; (· (intro w' hw'; go_simp; try with_reducible rfl)); simp only [Act.put, List.setIfInBounds_toArray, List.set_cons_zero, List.set_cons_succ]) | (refine wpC_val (v := ?_) (RBel.refl_) rfl (by rfl) ?_ ?_; rotate_left; (· (go_simp; try with_reducible rfl)); simp only [Act.put, List.setIfInBounds_toArray, List.set_cons_zero, List.set_cons_succ]) | (refine wpC_skip rfl (by rfl) ?_; simp only [Act.put, List.setIfInBounds_toArray, List.set_cons_zero, List.set_cons_succ]) | (refine wpC_skip' (RBel.refl_) rfl (by rfl) ?_; simp only [Act.put, List.setIfInBounds_toArray, List.set_cons_zero, List.set_cons_succ]))
      (refine wpC_loud rfl (by rfl) ?_; intro K hK; go_simp)
      refine (right_any ua 2 _ ka (by omega) (by omega)).mono ?_
      rintro e w' ⟨rfl, rfl⟩
      (refine hK.out _ _ (RBel.refl_ _) ?_; clear hK K; try simp only [Act.put, List.setIfInBounds_toArray, List.set_cons_zero, List.set_cons_succ])
      (refine wpC_loud rfl (by rfl) ?_; intro K hK; go_simp)
      refine (right_any ua 13 _ ka (by omega) (by omega)).mono ?_
      rintro e w' ⟨rfl, rfl⟩
      (refine hK.out _ _ (RBel.refl_ _) ?_; clear hK K; try simp only [Act.put, List.setIfInBounds_toArray, List.set_cons_zero, List.set_cons_succ])
      repeat (first | (refine wpC_quiet (v := ?_) rfl (by rfl) ?_ ?_; rotate_left; (· (intro w' hw'; go_simp; try with_reducible rfl)); simp only [Act.put, List.setIfInBounds_toArray, List.set_cons_zero, List.set_cons_succ]) | (refine wpC_val (v := ?_) (RBel.refl_) rfl (by rfl) ?_ ?_; rotate_left; (· (go_simp; try with_reducible rfl)); simp only [Act.put, List.setIfInBounds_toArray, List.set_cons_zero, List.set_cons_succ]) | (refine wpC_skip rfl (by rfl) ?_; simp only [Act.put, List.setIfInBounds_toArray, List.set_cons_zero, List.set_cons_succ]) | (refine wpC_skip' (RBel.refl_) rfl (by rfl) ?_; simp only [Act.put, List.setIfInBounds_toArray, List.set_cons_zero, List.set_cons_succ]))
      (refine wpC_loud rfl (by rfl) ?_; intro K hK; go_simp)
      refine (right_any ua 22 _ ka (by omega) (by omega)).mono ?_
      rintro e w' ⟨rfl, rfl⟩
      (refine hK.out _ _ (RBel.refl_ _) ?_; clear hK K; try simp only [Act.put, List.setIfInBounds_toArray, List.set_cons_zero, List.set_cons_succ])
      repeat (first | (refine wpC_quiet (v := ?_) rfl (by rfl) ?_ ?_; rotate_left; (· (intro w' hw'; go_simp; try with_reducible rfl)); simp only [Act.put, List.setIfInBounds_toArray, List.set_cons_zero, List.set_cons_succ]) | (refine wpC_val (v := ?_) (RBel.refl_) rfl (by rfl) ?_ ?_; rotate_left; (· (go_simp; try with_reducible rfl)); simp only [Act.put, List.setIfInBounds_toArray, List.set_cons_zero, List.set_cons_succ]) | (refine wpC_skip rfl (by rfl) ?_; simp only [Act.put, List.setIfInBounds_toArray, List.set_cons_zero, List.set_cons_succ]) | (refine wpC_skip' (RBel.refl_) rfl (by rfl) ?_; simp only [Act.put, List.setIfInBounds_toArray, List.set_cons_zero, List.set_cons_succ]))
      refine wpC_nil ?_
      clear c0 c1 c2 Y0 Y1 Y2
      have bi3 : Blk wr.drew.drew.drew p7 125 (V32 [ua, ub, uc, ud, ue, uf, ug, uh]) := bi
      have hbi3 : RBut (some p7) V7 wr.drew.drew.drew := RBut.trans_ _ _ _ _ hbi (RBut.of_below (Below.refl _ _).drew.drew.drew)
      generalize wr.drew.drew.drew = wt at *
      have d0 := bi3.cell 0
      have d1 := bi3.cell 1
      have d2 := bi3.cell 2
      have d3 := bi3.cell 3
      have d4 := bi3.cell 4
      have d5 := bi3.cell 5
      have d6 := bi3.cell 6
      have d7 := bi3.cell 7
      have f0 := bi3.fz 0
      have f1 := bi3.fz 1
      have f2 := bi3.fz 2
      have f3 := bi3.fz 3
      have f4 := bi3.fz 4
      have f5 := bi3.fz 5
      have f6 := bi3.fz 6
      have f7 := bi3.fz 7
      simp only [V32, List.map_cons, List.getElem?_cons_zero, List.getElem?_cons_succ] at d0 d1 d2 d3 d4 d5 d6 d7
      obtain ⟨Z, hZ⟩ : ∃ Z, Z = (X + Y) % 4294967296 := ⟨_, rfl⟩
      obtain ⟨Z2, hZ2⟩ : ∃ Z2, Z2 = (ud + X) % 4294967296 := ⟨_, rfl⟩
      have hs : rnds ws s (i + 1) = ⟨Z, ua, ub, uc, Z2, ue, uf, ug⟩ := by
        rw [HR.out, hZ, hZ2, HX.out, HY.out]
        unfold rnd
        simp only [S8.mk.injEq, and_true, true_and]
        omega
      have z1 : ((X : Int) + (Y : Int)) % 4294967296 = (Z : Int) := by omega
      have z2 : ((ud : Int) + (X : Int)) % 4294967296 = (Z2 : Int) := by omega
      have HS := Lib.hid hs
      clear hZ hZ2 hs
      go_wp2_with fail
      have st := store8 bi3 (.int .u32 (Z : Int)) (.int .u32 (ua : Int)) (.int .u32 (ub : Int)) (.int .u32 (uc : Int)) (.int .u32 (Z2 : Int)) (.int .u32 (ue : Int)) (.int .u32 (uf : Int)) (.int .u32 (ug : Int))
      go_roundw
      case rel => exact ⟨i + 1, by omega, by go_num, by rw [HS.out]; exact st.1, RBut.trans_ _ _ _ _ hbi3 st.2⟩
      case measure => simp [intOf]; omega
    · have t1 : ¬ (i : Int) < 64 := by omega
      obtain rfl : i = 64 := by omega
      go_wp2_with fail
      have hoki := rnds_ok ws hok 64
      have v2i := v2'.but hbi (fun h => by injection h; omega)
      have v4i := v4'.but hbi (fun h => by injection h; omega)
      obtain ⟨T, hT⟩ : ∃ T, T = rnds ws s 64 := ⟨_, rfl⟩
      rw [← hT] at bi hoki
      have HT := Lib.hid hT
      clear hT v2' v4' v5' v6'
      go_loopw [100] (fun v wq => ∃ j : Nat, j ≤ 8 ∧ v = .int .i64 j ∧ Blk wq p7 125 (V32 (mix T s j)) ∧ RBut (some p7) wr wq) (fun v _ => 8 - (intOf v).toNat)
      case atStart => exact ⟨0, by omega, rfl, bi, RBut.refl_ _ _⟩
      case round =>
        obtain ⟨j, hj, rfl, bj, hbj⟩ := hrel
        by_cases hlt : j < 8
        · have t1 : (j : Int) < 8 := by omega
          obtain ⟨x, y, hx, hy, hm⟩ := mix_at T s j hlt
          have v2j := v2i.but hbj (fun h => by injection h; omega)
          have cx : wr.drew.cell? ⟨p7, j, none⟩ = _ := (bj.cell j).trans (V32_get hx)
          have cy : wr.drew.cell? ⟨N, j, none⟩ = _ := (v2j.cell j).trans (V32_get hy)
          have fx : wr.drew.frozen? ⟨p7, j, none⟩ = _ := bj.fz j
          have bs := Blk.set_ (w := wr.drew) bj j (.int .u32 (((x + y) % 4294967296 : Nat) : Int))
          have hbs := RBut.trans_ _ _ _ _ (RBut.trans_ _ _ _ _ hbj (RBut.of_below (Below.refl _ _).drew)) (RBut.setC wr.drew p7 j (.int .u32 (((x + y) % 4294967296 : Nat) : Int)))
          have Y2 := sum2 x y
          have BS := Lib.hid bs
          have HM := Lib.hid hm
          have HBS := Lib.hid hbs
          clear hx hy hm bs hbs
          go_wp2_with fail
          have cx0 : wr.cell? ⟨p7, j, none⟩ = _ := cx
          have cy0 : wr.cell? ⟨N, j, none⟩ = _ := cy
          go_still_tail 8, (by kernel_rfl)
          clear cx0 cy0
          change wpList _ _ _ _ _ wr.drew
          generalize wr.drew = wd at *
          go_wp2_with fail
          have bs := BS.out
          rw [HM.out] at bs
          go_roundw
          case rel => exact ⟨j + 1, by omega, by go_num, bs, HBS.out⟩
          case measure => simp [intOf]; omega
        · have t1 : ¬ (j : Int) < 8 := by omega
          obtain rfl : j = 8 := by omega
          have v4j := v4i.but hbj (fun h => by injection h; omega)
          go_wp2_with (first
            | (refine wpl_load_blk rfl _ _ rfl p7 rfl 125 (V32 (addS T s).list) _ bj Try.underlying125 rfl (info_st rfl) ?_)
            | (refine wpl_store_blk rfl _ _ _ rfl (N + 1) 125 (List.replicate 8 (.int .u32 0)) (V32 (addS T s).list) rfl rfl v4j rfl (info_st rfl) (V32_one _) ?_; intro w9 b9 hb9))
          have hfin : comp s l = addS T s := by rw [HT.out, HWS.out]; rfl
          rw [hfin]
          exact bodyPost_ret (v := .agg (V32 (addS T s).list).toArray) (results_blk Try.results83 rfl b9 Try.underlying125 rfl (info_st rfl)) rfl ⟨rfl, by
            rw [HN.out]
            have e1 := below_but hbi (show N ≤ p7 by omega) (show N ≤ V7.heap.size from HN.out ▸ hNV7.size)
            have e2 := below_but hbj (show N ≤ p7 by omega) (Nat.le_trans (HN.out ▸ hNV7.size) e1.size)
            have e3 := below_but hb9 (show N ≤ N + 1 by omega) (Nat.le_trans (Nat.le_trans (HN.out ▸ hNV7.size) e1.size) e2.size)
            exact hNV7.trans (e1.trans (e2.trans e3))⟩
end Go.Proofs.Ytdopgooglicaiaa
