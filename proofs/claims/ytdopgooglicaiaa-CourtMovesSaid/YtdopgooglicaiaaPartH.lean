/- The texts of this claim, part H: words, plain laws, walks. -/
import Derived.Test.YtdopgooglicaiaaPartG
/- The walk of court's settle, of a court of one claim that was sued. -/
set_option linter.unusedSimpArgs false
set_option linter.unusedVariables false
namespace Go.Proofs.Ytdopgooglicaiaa
open Go.RowKit
set_option maxRecDepth 100000
def addB (bk : List Int) (b : Nat) (z : Int) : List Int := bk.set b (bk.getD b 0 + z)
/-- what the other suits, if open, are given back -/
def refB (q : Nat) : List SU → Nat → List Int → List Int
  | [], _, bk => bk
  | s :: l, j, bk => refB q l (j + 1) (if j ≠ q ∧ s.g.turn ≠ 4 then addB bk s.by_.toNat 100 else bk)
def settleX (x : CL) (s : SU) : CL := if s.g.won = true then x else { x with st := 3 }
def settleC (c : CO) (x : CL) (q : Nat) (s : SU) : CO := if s.g.won = true then { c with bank := addB c.bank x.by_.toNat 100 } else { c with claims := [{ x with st := 3 }], bank := refB q x.suits 0 (addB c.bank s.by_.toNat 200) }
theorem addB_at (bk : List Int) (hb : bk.length = 8) (b : Nat) (h8 : b < 8) (z : Int) (i : Nat) : (addB bk b z).getD i 0 = bk.getD i 0 + if i = b then z else 0 := by
  unfold addB
  rw [List.getD_eq_getElem?_getD, List.getElem?_set]
  by_cases e : i = b
  · subst e
    rw [if_pos rfl, if_pos (by omega), if_pos rfl]
    rfl
  · rw [if_neg (fun h => e h.symm), if_neg e, ← List.getD_eq_getElem?_getD]
    omega
theorem addB_len (bk : List Int) (b : Nat) (z : Int) : (addB bk b z).length = bk.length := List.length_set
/-- all have something, and no more than so much -/
def BkB (M : Int) (bk : List Int) : Prop := bk.length = 8 ∧ ∀ b, b < 8 → 0 ≤ bk.getD b 0 ∧ bk.getD b 0 ≤ M
theorem BkB.add {M : Int} {bk : List Int} (h : BkB M bk) {b : Nat} (h8 : b < 8) {z : Int} (hz : 0 ≤ z) : BkB (M + z) (addB bk b z) := ⟨by rw [addB_len]; exact h.1, fun i hi => by
  rw [addB_at bk h.1 b h8]
  have := h.2 i hi
  split <;> omega⟩
theorem BkB.up {M N : Int} {bk : List Int} (h : BkB M bk) (hn : M ≤ N) : BkB N bk := ⟨h.1, fun i hi => by have := h.2 i hi; omega⟩
theorem su_turn {u : Value} {s : SU} (h : GLen s.g) : (suF (u, s))[100]? = some (.int .i64 s.g.turn) := su_tail h 0
theorem su_won {u : Value} {s : SU} (h : GLen s.g) : (suF (u, s))[103]? = some (.bool s.g.won) := su_tail h 3
set_option maxRecDepth 100000 in
set_option maxHeartbeats 4000000 in
theorem settle_any {w : World} {P T CB SB cC cS : Nat} {rest srest : List Value} {l : List (Value × SU)} {c : CO} {x : CL} (h : OneM w P T CB SB cC cS rest srest l c x) (q : Nat) (u : Value) (s : SU) (hq : l[q]? = some (u, s)) (hu : u.oneCell' = true)
    (hby : 0 ≤ x.by_ ∧ x.by_ < 8) (hsb : ∀ y ∈ x.suits, 0 ≤ y.by_ ∧ y.by_ < 8) (hbk : BkB 10000000 c.bank) :
    Calls Try.prog 79 #[.pointer (some ⟨P, 0, none⟩), .int .i64 0, .int .i64 (q : Int)] w fun e w' => e = .returned (.tuple #[]) ∧ FrS [P, CB, SB] w w' ∧ OneM w' P T CB SB cC cS rest srest l (settleC c x q s) (settleX x s) := by
  have HSO : Hid s.ok := h.sok (u, s) (List.mem_of_getElem? hq)
  have hlt : q < l.length := (List.getElem?_eq_some_iff.1 hq).1
  have HU := Lib.hid hu
  have HQ := Lib.hid hq
  have HSB := Lib.hid hsb
  have HBK := Lib.hid hbk
  have HIS := Lib.hid (info_su (p := (u, s)) HSO.out.g)
  have HSL : Hid ((suF (u, s)).length = 106) := Lib.hid (suF_len (p := (u, s)) HSO.out.g)
  have hs1 := h.s1
  have hnl : l.length ≤ 4096 := by
    have := h.xok.n
    rw [← h.ml, List.length_map] at this
    exact this
  have HO := Lib.hid h
  have k42 := h.k42
  have k36 := h.cv
  have rs := h.srow hq
  have hP0 := h.bp.lt
  have hC0 := h.bc.lt
  have hS0 := h.bs.lt
  have HN1 := Lib.hid h.n2
  have hmem : s ∈ x.suits := mem_snd h.ml (List.mem_of_getElem? hq)
  obtain ⟨a, ha⟩ : ∃ a : Nat, s.by_ = (a : Int) := ⟨s.by_.toNat, by have := hsb s hmem; omega⟩
  have ha8 : a < 8 := by have := hsb s hmem; omega
  obtain ⟨b, hb⟩ : ∃ b : Nat, x.by_ = (b : Int) := ⟨x.by_.toNat, by omega⟩
  have hb8x : b < 8 := by omega
  have HA := Lib.hid ha
  have HB := Lib.hid hb
  have t0 : (q : Int) < (l.length : Int) := by omega
  have hq63 : (q : Int) < 9223372036854775808 := by omega
  clear h hq hu hsb hbk hmem ha hb hby
  go_enter Try.func79, Try.ntmps79
  go_upto_region 2 with (first
    | (refine wpl_load_fld (by rfl) _ _ rfl SB (q * 106) rfl (suF (u, s)) _ rs Try.underlying44 rfl HIS.out ?_)
    | (refine wpl_store_new rfl _ _ _ rfl 44 _ (suF (u, s)) rfl rfl (by rw [HSL.out]; rfl) HIS.out (suF_one HU.out) ?_
       intro w1 d1 hz1
       simp only [Act.put, List.setIfInBounds_toArray, List.set_cons_zero, List.set_cons_succ]
       have kw1 : w1.cell? ⟨w.heap.size, 103, none⟩ = some (.bool s.g.won) := by rw [d1.cell]; exact su_won HSO.out.g))
  have HO1 := Lib.hid (HO.out.to hz1)
  have ff : FrS [P, CB, SB] w w1 := FrS.of_below hz1
  clear HO k42 k36 rs hz1
  have HO := HO1
  clear HO1
  cases hwon : s.g.won with
  | true =>
    rw [hwon] at kw1
    go_wp2_with fail
    have bsrc := HO.out.bc
    have ksrc : (clF (.slice (some ⟨SB, 0, none⟩) l.length cS, x) ++ rest)[0]? = some (.int .i64 (b : Int)) := by
      rw [List.getElem?_append_left (by rw [clF_len HO.out.xok.root]; decide), ← HB.out]
      exact cl_by
    have HNE := Lib.hid (show CB ≠ P from fun e => HN1.out e.symm)
    obtain ⟨z, hz⟩ : ∃ z, c.bank.getD b 0 = z := ⟨_, rfl⟩
    have hzb : 0 ≤ z ∧ z ≤ 10000000 := by have := HBK.out.2 b hb8x; omega
    have HZ := Lib.hid hz
    have hb8 := hb8x
    have wz : IntKind.i64.wrap (z + 100) = z + 100 := IntWalk.i64_in _ (by omega)
    clear hz d1 kw1
    refine wp_region_P (.take 0 (.take 1 (.take 2 (.take 3 (.take 4 (.take 5 (.take 6 (.take 7 (.take 10 (.take 11 (.one 8 (.take 9 (.take 12 (.one 13 .done)))))))))))))) (RBut (some P)) (by kernel_rfl) (by kernel_rfl) (by kernel_rfl) (by decide +kernel) (RBut.refl_ _) (RBut.trans_ _) (by intro d v c a w h; first | (cases d <;> exact h) | exact absurd h.1 (by simp)) ?_
    have HOD := Lib.hid HO.out.drew
    have ffd : FrS [P, CB, SB] w w1.drew := ff.trans_ (FrS.of_below (Below.refl _ _).drew)
    have bsrcd : Blk w1.drew CB _ _ := bsrc
    clear HO ff bsrc
    generalize w1.drew = V2 at *
    have HO := HOD
    have ff := ffd
    have bsrc := bsrcd
    clear HOD ffd bsrcd
    have kb : V2.cell? ⟨P, 34 + b, none⟩ = some (.int .i64 z) := by rw [← HZ.out]; exact HO.out.kb b hb8
    have fzb := HO.out.bp.fz (34 + b)
    have t8 : (b : Int) < 8 := by omega
    have t9 : (0 : Int) ≤ (b : Int) := by omega
    first | (refine wpP_quiet (v := ?_) rfl (by rfl) ?_ ?_; rotate_left; (· (intro w' hw'; go_simp; try with_reducible rfl)); simp only [Act.put, List.setIfInBounds_toArray, List.set_cons_zero, List.set_cons_succ]) | (refine wpP_skip rfl (by rfl) ?_; simp only [Act.put, List.setIfInBounds_toArray, List.set_cons_zero, List.set_cons_succ])
    first | (refine wpP_quiet (v := ?_) rfl (by rfl) ?_ ?_; rotate_left; (· (intro w' hw'; go_simp; try with_reducible rfl)); simp only [Act.put, List.setIfInBounds_toArray, List.set_cons_zero, List.set_cons_succ]) | (refine wpP_skip rfl (by rfl) ?_; simp only [Act.put, List.setIfInBounds_toArray, List.set_cons_zero, List.set_cons_succ])
    first | (refine wpP_quiet (v := ?_) rfl (by rfl) ?_ ?_; rotate_left; (· (intro w' hw'; go_simp; try with_reducible rfl)); simp only [Act.put, List.setIfInBounds_toArray, List.set_cons_zero, List.set_cons_succ]) | (refine wpP_skip rfl (by rfl) ?_; simp only [Act.put, List.setIfInBounds_toArray, List.set_cons_zero, List.set_cons_succ])
    first | (refine wpP_quiet (v := ?_) rfl (by rfl) ?_ ?_; rotate_left; (· (intro w' hw'; go_simp; try with_reducible rfl)); simp only [Act.put, List.setIfInBounds_toArray, List.set_cons_zero, List.set_cons_succ]) | (refine wpP_skip rfl (by rfl) ?_; simp only [Act.put, List.setIfInBounds_toArray, List.set_cons_zero, List.set_cons_succ])
    refine wpP_quiet (v := .int .i64 (b : Int)) rfl (by rfl) (fun w' hw' => by (have kq : w'.cell? ⟨CB, 0, none⟩ = some (.int .i64 (b : Int)) := (by rw [(bsrc.but hw' (by intro e; injection e with e; exact HNE.out e)).cell]; exact ksrc); go_simp; try with_reducible rfl)) ?_
    simp only [Act.put, List.setIfInBounds_toArray, List.set_cons_zero, List.set_cons_succ]
    first | (refine wpP_quiet (v := ?_) rfl (by rfl) ?_ ?_; rotate_left; (· (intro w' hw'; go_simp; try with_reducible rfl)); simp only [Act.put, List.setIfInBounds_toArray, List.set_cons_zero, List.set_cons_succ]) | (refine wpP_skip rfl (by rfl) ?_; simp only [Act.put, List.setIfInBounds_toArray, List.set_cons_zero, List.set_cons_succ])
    first | (refine wpP_quiet (v := ?_) rfl (by rfl) ?_ ?_; rotate_left; (· (intro w' hw'; go_simp; try with_reducible rfl)); simp only [Act.put, List.setIfInBounds_toArray, List.set_cons_zero, List.set_cons_succ]) | (refine wpP_skip rfl (by rfl) ?_; simp only [Act.put, List.setIfInBounds_toArray, List.set_cons_zero, List.set_cons_succ])
    first | (refine wpP_quiet (v := ?_) rfl (by rfl) ?_ ?_; rotate_left; (· (intro w' hw'; go_simp; try with_reducible rfl)); simp only [Act.put, List.setIfInBounds_toArray, List.set_cons_zero, List.set_cons_succ]) | (refine wpP_skip rfl (by rfl) ?_; simp only [Act.put, List.setIfInBounds_toArray, List.set_cons_zero, List.set_cons_succ])
    first | (refine wpP_quiet (v := ?_) rfl (by rfl) ?_ ?_; rotate_left; (· (intro w' hw'; go_simp; try with_reducible rfl)); simp only [Act.put, List.setIfInBounds_toArray, List.set_cons_zero, List.set_cons_succ]) | (refine wpP_skip rfl (by rfl) ?_; simp only [Act.put, List.setIfInBounds_toArray, List.set_cons_zero, List.set_cons_succ])
    first | (refine wpP_quiet (v := ?_) rfl (by rfl) ?_ ?_; rotate_left; (· (intro w' hw'; go_simp; try with_reducible rfl)); simp only [Act.put, List.setIfInBounds_toArray, List.set_cons_zero, List.set_cons_succ]) | (refine wpP_skip rfl (by rfl) ?_; simp only [Act.put, List.setIfInBounds_toArray, List.set_cons_zero, List.set_cons_succ])
    refine wpP_one ?_
    refine wpP_loud rfl (by rfl) ?_
    intro K hK
    go_simp
    refine hK.out _ _ (RBut.refl_ _ _) ?_
    clear hK K
    try simp only [Act.put, List.setIfInBounds_toArray, List.set_cons_zero, List.set_cons_succ]
    first | (refine wpP_quiet (v := ?_) rfl (by rfl) ?_ ?_; rotate_left; (· (intro w' hw'; go_simp; try with_reducible rfl)); simp only [Act.put, List.setIfInBounds_toArray, List.set_cons_zero, List.set_cons_succ]) | (refine wpP_skip rfl (by rfl) ?_; simp only [Act.put, List.setIfInBounds_toArray, List.set_cons_zero, List.set_cons_succ])
    first | (refine wpP_quiet (v := ?_) rfl (by rfl) ?_ ?_; rotate_left; (· (intro w' hw'; go_simp; try with_reducible rfl)); simp only [Act.put, List.setIfInBounds_toArray, List.set_cons_zero, List.set_cons_succ]) | (refine wpP_skip rfl (by rfl) ?_; simp only [Act.put, List.setIfInBounds_toArray, List.set_cons_zero, List.set_cons_succ])
    refine wpP_one ?_
    refine wpP_loud rfl (by rfl) ?_
    intro K hK
    go_simp
    refine hK.out _ _ (RBut.setC _ _ _ _) ?_
    clear hK K
    try simp only [Act.put, List.setIfInBounds_toArray, List.set_cons_zero, List.set_cons_succ]
    refine wpP_done ?_
    have HO3 := Lib.hid (HO.out.bank b hb8 (z + 100))
    have u3 : RBut (some P) V2 (V2.setCell ⟨P, 34 + b, none⟩ (.int .i64 (z + 100))) := RBut.setC _ _ _ _
    have ff3 := ff.trans_ (FrS.of_but u3 (by simp))
    clear kb fzb HO ff bsrc u3 ksrc
    generalize V2.setCell ⟨P, 34 + b, none⟩ (.int .i64 (z + 100)) = V3 at *
    have HO := HO3
    have ff := ff3
    clear HO3 ff3
    go_wp2_with fail
    refine bodyPost_ret (results_none rfl _ _ _) rfl ?_
    refine ⟨rfl, ff, ?_⟩
    have e1 : settleC c x q s = { c with bank := c.bank.set b (z + 100) } := by
      unfold settleC addB
      rw [if_pos hwon, HB.out, Int.toNat_natCast, HZ.out]
    have e2 : settleX x s = x := by
      unfold settleX
      rw [if_pos hwon]
    rw [e1, e2]
    exact HO.out
  | false =>
    rw [hwon] at kw1
    have k3 := HO.out.cst
    have fz3 := HO.out.bc.fz 3
    go_upto_region 5 with fail
    have HO2 := Lib.hid (HO.out.st 3)
    have u2 : RBut (some CB) w1 (w1.setCell ⟨CB, 3, none⟩ (.int .i64 3)) := RBut.setC _ _ _ _
    have ff2 := ff.trans_ (FrS.of_but u2 (by simp))
    have d2 := d1.but u2 (by intro e; injection e with e; omega)
    clear HO ff d1 kw1 k3 fz3 u2
    generalize w1.setCell ⟨CB, 3, none⟩ (.int .i64 3) = w2 at *
    have HO := HO2
    have ff := ff2
    have bsrc := d2
    clear HO2 ff2 d2
    have ksrc : (suF (u, s))[0]? = some (.int .i64 (a : Int)) := by rw [← HA.out]; rfl
    have HNE := Lib.hid (show w.heap.size ≠ P from by omega)
    obtain ⟨c1, hc1⟩ : ∃ c1 : CO, { c with claims := [{ x with st := 3 }] } = c1 := ⟨_, rfl⟩
    obtain ⟨x1, hx1⟩ : ∃ x1 : CL, { x with st := 3 } = x1 := ⟨_, rfl⟩
    have hcb : c1.bank = c.bank := by rw [← hc1]
    have hxs : x1.suits = x.suits := by rw [← hx1]
    rw [hc1, hx1] at HO
    rw [hx1] at hc1
    have HC1 := Lib.hid hc1
    have HX1 := Lib.hid hx1
    have HCB := Lib.hid hcb
    have HXS := Lib.hid hxs
    obtain ⟨z, hz⟩ : ∃ z, c.bank.getD a 0 = z := ⟨_, rfl⟩
    have hzb : 0 ≤ z ∧ z ≤ 10000000 := by have := HBK.out.2 a ha8; omega
    have HZ0 := Lib.hid hz
    have HZ : Hid (c1.bank.getD a 0 = z) := (show _ = _ by rw [hcb]; exact hz)
    have hb8 := ha8
    have wz : IntKind.i64.wrap (z + 200) = z + 200 := IntWalk.i64_in _ (by omega)
    clear hc1 hx1 hcb hxs hz
    refine wp_region_P (.take 0 (.take 1 (.take 2 (.take 3 (.take 4 (.take 5 (.take 8 (.take 9 (.one 6 (.take 7 (.take 10 (.one 11 .done)))))))))))) (RBut (some P)) (by kernel_rfl) (by kernel_rfl) (by kernel_rfl) (by decide +kernel) (RBut.refl_ _) (RBut.trans_ _) (by intro d v c a w h; first | (cases d <;> exact h) | exact absurd h.1 (by simp)) ?_
    have HOD := Lib.hid HO.out.drew
    have ffd : FrS [P, CB, SB] w w2.drew := ff.trans_ (FrS.of_below (Below.refl _ _).drew)
    have bsrcd : Blk w2.drew w.heap.size _ _ := bsrc
    clear HO ff bsrc
    generalize w2.drew = V2 at *
    have HO := HOD
    have ff := ffd
    have bsrc := bsrcd
    clear HOD ffd bsrcd
    have kb : V2.cell? ⟨P, 34 + a, none⟩ = some (.int .i64 z) := by rw [← HZ.out]; exact HO.out.kb a hb8
    have fzb := HO.out.bp.fz (34 + a)
    have t8 : (a : Int) < 8 := by omega
    have t9 : (0 : Int) ≤ (a : Int) := by omega
    first | (refine wpP_quiet (v := ?_) rfl (by rfl) ?_ ?_; rotate_left; (· (intro w' hw'; go_simp; try with_reducible rfl)); simp only [Act.put, List.setIfInBounds_toArray, List.set_cons_zero, List.set_cons_succ]) | (refine wpP_skip rfl (by rfl) ?_; simp only [Act.put, List.setIfInBounds_toArray, List.set_cons_zero, List.set_cons_succ])
    first | (refine wpP_quiet (v := ?_) rfl (by rfl) ?_ ?_; rotate_left; (· (intro w' hw'; go_simp; try with_reducible rfl)); simp only [Act.put, List.setIfInBounds_toArray, List.set_cons_zero, List.set_cons_succ]) | (refine wpP_skip rfl (by rfl) ?_; simp only [Act.put, List.setIfInBounds_toArray, List.set_cons_zero, List.set_cons_succ])
    refine wpP_quiet (v := .int .i64 (a : Int)) rfl (by rfl) (fun w' hw' => by (have kq : w'.cell? ⟨w.heap.size, 0, none⟩ = some (.int .i64 (a : Int)) := (by rw [(bsrc.but hw' (by intro e; injection e with e; exact HNE.out e)).cell]; exact ksrc); go_simp; try with_reducible rfl)) ?_
    simp only [Act.put, List.setIfInBounds_toArray, List.set_cons_zero, List.set_cons_succ]
    first | (refine wpP_quiet (v := ?_) rfl (by rfl) ?_ ?_; rotate_left; (· (intro w' hw'; go_simp; try with_reducible rfl)); simp only [Act.put, List.setIfInBounds_toArray, List.set_cons_zero, List.set_cons_succ]) | (refine wpP_skip rfl (by rfl) ?_; simp only [Act.put, List.setIfInBounds_toArray, List.set_cons_zero, List.set_cons_succ])
    first | (refine wpP_quiet (v := ?_) rfl (by rfl) ?_ ?_; rotate_left; (· (intro w' hw'; go_simp; try with_reducible rfl)); simp only [Act.put, List.setIfInBounds_toArray, List.set_cons_zero, List.set_cons_succ]) | (refine wpP_skip rfl (by rfl) ?_; simp only [Act.put, List.setIfInBounds_toArray, List.set_cons_zero, List.set_cons_succ])
    first | (refine wpP_quiet (v := ?_) rfl (by rfl) ?_ ?_; rotate_left; (· (intro w' hw'; go_simp; try with_reducible rfl)); simp only [Act.put, List.setIfInBounds_toArray, List.set_cons_zero, List.set_cons_succ]) | (refine wpP_skip rfl (by rfl) ?_; simp only [Act.put, List.setIfInBounds_toArray, List.set_cons_zero, List.set_cons_succ])
    first | (refine wpP_quiet (v := ?_) rfl (by rfl) ?_ ?_; rotate_left; (· (intro w' hw'; go_simp; try with_reducible rfl)); simp only [Act.put, List.setIfInBounds_toArray, List.set_cons_zero, List.set_cons_succ]) | (refine wpP_skip rfl (by rfl) ?_; simp only [Act.put, List.setIfInBounds_toArray, List.set_cons_zero, List.set_cons_succ])
    first | (refine wpP_quiet (v := ?_) rfl (by rfl) ?_ ?_; rotate_left; (· (intro w' hw'; go_simp; try with_reducible rfl)); simp only [Act.put, List.setIfInBounds_toArray, List.set_cons_zero, List.set_cons_succ]) | (refine wpP_skip rfl (by rfl) ?_; simp only [Act.put, List.setIfInBounds_toArray, List.set_cons_zero, List.set_cons_succ])
    refine wpP_one ?_
    refine wpP_loud rfl (by rfl) ?_
    intro K hK
    go_simp
    refine hK.out _ _ (RBut.refl_ _ _) ?_
    clear hK K
    try simp only [Act.put, List.setIfInBounds_toArray, List.set_cons_zero, List.set_cons_succ]
    first | (refine wpP_quiet (v := ?_) rfl (by rfl) ?_ ?_; rotate_left; (· (intro w' hw'; go_simp; try with_reducible rfl)); simp only [Act.put, List.setIfInBounds_toArray, List.set_cons_zero, List.set_cons_succ]) | (refine wpP_skip rfl (by rfl) ?_; simp only [Act.put, List.setIfInBounds_toArray, List.set_cons_zero, List.set_cons_succ])
    first | (refine wpP_quiet (v := ?_) rfl (by rfl) ?_ ?_; rotate_left; (· (intro w' hw'; go_simp; try with_reducible rfl)); simp only [Act.put, List.setIfInBounds_toArray, List.set_cons_zero, List.set_cons_succ]) | (refine wpP_skip rfl (by rfl) ?_; simp only [Act.put, List.setIfInBounds_toArray, List.set_cons_zero, List.set_cons_succ])
    refine wpP_one ?_
    refine wpP_loud rfl (by rfl) ?_
    intro K hK
    go_simp
    refine hK.out _ _ (RBut.setC _ _ _ _) ?_
    clear hK K
    try simp only [Act.put, List.setIfInBounds_toArray, List.set_cons_zero, List.set_cons_succ]
    refine wpP_done ?_
    have HO3 := Lib.hid (HO.out.bank a hb8 (z + 200))
    have u3 : RBut (some P) V2 (V2.setCell ⟨P, 34 + a, none⟩ (.int .i64 (z + 200))) := RBut.setC _ _ _ _
    have ff3 := ff.trans_ (FrS.of_but u3 (by simp))
    clear kb fzb HO ff bsrc u3 ksrc
    generalize V2.setCell ⟨P, 34 + a, none⟩ (.int .i64 (z + 200)) = V3 at *
    have HO := HO3
    have ff := ff3
    clear HO3 ff3
    clear HZ wz t8 t9 HNE hzb
    have hbk1 : BkB 10000200 (c1.bank.set a (z + 200)) := by
      have := (HBK.out.add ha8 (z := 200) (by decide))
      unfold addB at this
      rw [HZ0.out] at this
      rw [HCB.out]
      exact this
    obtain ⟨B0, hB0⟩ : ∃ B0, c1.bank.set a (z + 200) = B0 := ⟨_, rfl⟩
    rw [hB0] at HO hbk1
    have HB1 := Lib.hid hbk1
    have HB0 := Lib.hid hB0
    clear hbk1 hB0
    have k36 := HO.out.cv
    go_wp2_with fail
    go_loopw [58] (fun k wr => ∃ (j : Nat) (bk : List Int), k = .int .i64 (j : Int) ∧ j ≤ l.length ∧ Hid (refB q (x.suits.drop j) j bk = refB q x.suits 0 B0) ∧ Hid (BkB (10000200 + 100 * (j : Int)) bk) ∧ Hid (OneM wr P T CB SB cC cS rest srest l { c1 with bank := bk } x1) ∧ FrS [P, CB, SB] w wr) (fun k _ => l.length - (intOf k).toNat)
    case atStart => exact ⟨0, B0, rfl, Nat.zero_le _, (show _ = _ by rw [List.drop_zero]), (show BkB _ _ from HB1.out.up (by omega)), HO, ff⟩
    case round =>
      clear HO ff k36
      obtain ⟨j, bk, rfl, hj, HR, HJ, HO, ff⟩ := hrel
      by_cases hlj : j < l.length
      · have t1 : (j : Int) < (l.length : Int) := by omega
        obtain ⟨y, hy⟩ : ∃ y, x.suits[j]? = some y := ⟨_, List.getElem?_eq_getElem (by rw [← HXS.out, ← HO.out.ml, List.length_map]; exact hlj)⟩
        obtain ⟨v, hv⟩ := snd_get HO.out.ml (by rw [HXS.out]; exact hy)
        have HYO : Hid y.ok := HO.out.sok (v, y) (List.mem_of_getElem? hv)
        have HYI := Lib.hid (info_su (p := (v, y)) HYO.out.g)
        have HYL : Hid ((suF (v, y)).length = 106) := Lib.hid (suF_len (p := (v, y)) HYO.out.g)
        have HV1 : Hid (v.oneCell' = true) := Lib.hid (HO.out.hx (v, y) (List.mem_of_getElem? hv)).one
        have hyb := HSB.out y (List.mem_of_getElem? hy)
        obtain ⟨b2, hb2⟩ : ∃ b : Nat, y.by_ = (b : Int) := ⟨y.by_.toNat, by omega⟩
        have hb28 : b2 < 8 := by omega
        have HB2 := Lib.hid hb2
        have HD : Hid (refB q (x.suits.drop j) j bk = refB q (x.suits.drop (j + 1)) (j + 1) (if j ≠ q ∧ y.g.turn ≠ 4 then addB bk b2 100 else bk)) := (show _ = _ by
          obtain ⟨hlt2, he⟩ := List.getElem?_eq_some_iff.1 hy
          rw [List.drop_eq_getElem_cons hlt2, he, refB, hb2, Int.toNat_natCast])
        have rs := HO.out.srow hv
        have hPr := HO.out.bp.lt
        have hCr := HO.out.bc.lt
        have hSr := HO.out.bs.lt
        clear hy hv hyb hb2
        go_upto_region 9 with (first
          | (refine wpl_load_fld (by rfl) _ _ rfl SB (j * 106) rfl (suF (v, y)) _ rs Try.underlying44 rfl HYI.out ?_)
          | (refine wpl_store_new rfl _ _ _ rfl 44 _ (suF (v, y)) rfl rfl (by rw [HYL.out]; rfl) HYI.out (suF_one HV1.out) ?_
             intro w1 dy hz1
             simp only [Act.put, List.setIfInBounds_toArray, List.set_cons_zero, List.set_cons_succ]
             have kt1 : w1.cell? ⟨wr.heap.size, 100, none⟩ = some (.int .i64 y.g.turn) := by rw [dy.cell]; exact su_turn HYO.out.g))
        have HO1 := Lib.hid (HO.out.to hz1)
        have ff1 := ff.trans_ (FrS.of_below hz1)
        clear HO ff rs hz1
        have HO := HO1
        have ff := ff1
        clear HO1 ff1
        by_cases hjq : j = q
        · subst hjq
          go_wp2_with fail
          go_roundw
          case rel => exact ⟨j + 1, bk, by go_num, hlj, (show _ = _ by rw [← HR.out, HD.out, if_neg (fun h => h.1 rfl)]), (show BkB _ _ from HJ.out.up (by omega)), HO, ff⟩
          case measure => simp [intOf]; omega
        · have t3 : ¬ (j : Int) = (q : Int) := by omega
          by_cases ht4 : y.g.turn = 4
          · rw [ht4] at kt1
            go_wp2_with fail
            go_roundw
            case rel => exact ⟨j + 1, bk, by go_num, hlj, (show _ = _ by rw [← HR.out, HD.out, if_neg (fun h => h.2 ht4)]), (show BkB _ _ from HJ.out.up (by omega)), HO, ff⟩
            case measure => simp [intOf]; omega
          · obtain ⟨tu, htu⟩ : ∃ tu, y.g.turn = tu := ⟨_, rfl⟩
            rw [htu] at kt1
            have HTU := Lib.hid htu
            have t4 : (tu == 4) = false := by rw [← htu]; simpa using ht4
            have t5 : (tu != 4) = true := by rw [← htu]; simpa using ht4
            have HT4 := Lib.hid ht4
            clear ht4 htu
            have t6 : ((j : Int) != (q : Int)) = true := by simpa using t3
            have t7 : ((j : Int) == (q : Int)) = false := by simpa using t3
            go_upto_region 10 with fail
            clear t6 t7
            have bsrc := dy
            have ksrc : (suF (v, y))[0]? = some (.int .i64 (b2 : Int)) := by rw [← HB2.out]; rfl
            have HNE := Lib.hid (show wr.heap.size ≠ P from by omega)
            obtain ⟨z2, hz2⟩ : ∃ z, bk.getD b2 0 = z := ⟨_, rfl⟩
            have hzb : 0 ≤ z2 ∧ z2 ≤ 20000000 := by have := HJ.out.2 b2 hb28; omega
            have HZ : Hid ((({ c1 with bank := bk } : CO).bank).getD b2 0 = z2) := hz2
            have hb8 := hb28
            have wz : IntKind.i64.wrap (z2 + 100) = z2 + 100 := IntWalk.i64_in _ (by omega)
            clear dy kt1
            refine wp_region_P (.take 0 (.take 1 (.take 2 (.take 3 (.take 4 (.take 5 (.take 8 (.take 9 (.one 6 (.take 7 (.take 10 (.one 11 .done)))))))))))) (RBut (some P)) (by kernel_rfl) (by kernel_rfl) (by kernel_rfl) (by decide +kernel) (RBut.refl_ _) (RBut.trans_ _) (by intro d v c a w h; first | (cases d <;> exact h) | exact absurd h.1 (by simp)) ?_
            have HOD := Lib.hid HO.out.drew
            have ffd : FrS [P, CB, SB] w w1.drew := ff.trans_ (FrS.of_below (Below.refl _ _).drew)
            have bsrcd : Blk w1.drew wr.heap.size _ _ := bsrc
            clear HO ff bsrc
            generalize w1.drew = V2 at *
            have HO := HOD
            have ff := ffd
            have bsrc := bsrcd
            clear HOD ffd bsrcd
            have kb : V2.cell? ⟨P, 34 + b2, none⟩ = some (.int .i64 z2) := by rw [← HZ.out]; exact HO.out.kb b2 hb8
            have fzb := HO.out.bp.fz (34 + b2)
            have t8 : (b2 : Int) < 8 := by omega
            have t9 : (0 : Int) ≤ (b2 : Int) := by omega
            first | (refine wpP_quiet (v := ?_) rfl (by rfl) ?_ ?_; rotate_left; (· (intro w' hw'; go_simp; try with_reducible rfl)); simp only [Act.put, List.setIfInBounds_toArray, List.set_cons_zero, List.set_cons_succ]) | (refine wpP_skip rfl (by rfl) ?_; simp only [Act.put, List.setIfInBounds_toArray, List.set_cons_zero, List.set_cons_succ])
            first | (refine wpP_quiet (v := ?_) rfl (by rfl) ?_ ?_; rotate_left; (· (intro w' hw'; go_simp; try with_reducible rfl)); simp only [Act.put, List.setIfInBounds_toArray, List.set_cons_zero, List.set_cons_succ]) | (refine wpP_skip rfl (by rfl) ?_; simp only [Act.put, List.setIfInBounds_toArray, List.set_cons_zero, List.set_cons_succ])
            refine wpP_quiet (v := .int .i64 (b2 : Int)) rfl (by rfl) (fun w' hw' => by (have kq : w'.cell? ⟨wr.heap.size, 0, none⟩ = some (.int .i64 (b2 : Int)) := (by rw [(bsrc.but hw' (by intro e; injection e with e; exact HNE.out e)).cell]; exact ksrc); go_simp; try with_reducible rfl)) ?_
            simp only [Act.put, List.setIfInBounds_toArray, List.set_cons_zero, List.set_cons_succ]
            first | (refine wpP_quiet (v := ?_) rfl (by rfl) ?_ ?_; rotate_left; (· (intro w' hw'; go_simp; try with_reducible rfl)); simp only [Act.put, List.setIfInBounds_toArray, List.set_cons_zero, List.set_cons_succ]) | (refine wpP_skip rfl (by rfl) ?_; simp only [Act.put, List.setIfInBounds_toArray, List.set_cons_zero, List.set_cons_succ])
            first | (refine wpP_quiet (v := ?_) rfl (by rfl) ?_ ?_; rotate_left; (· (intro w' hw'; go_simp; try with_reducible rfl)); simp only [Act.put, List.setIfInBounds_toArray, List.set_cons_zero, List.set_cons_succ]) | (refine wpP_skip rfl (by rfl) ?_; simp only [Act.put, List.setIfInBounds_toArray, List.set_cons_zero, List.set_cons_succ])
            first | (refine wpP_quiet (v := ?_) rfl (by rfl) ?_ ?_; rotate_left; (· (intro w' hw'; go_simp; try with_reducible rfl)); simp only [Act.put, List.setIfInBounds_toArray, List.set_cons_zero, List.set_cons_succ]) | (refine wpP_skip rfl (by rfl) ?_; simp only [Act.put, List.setIfInBounds_toArray, List.set_cons_zero, List.set_cons_succ])
            first | (refine wpP_quiet (v := ?_) rfl (by rfl) ?_ ?_; rotate_left; (· (intro w' hw'; go_simp; try with_reducible rfl)); simp only [Act.put, List.setIfInBounds_toArray, List.set_cons_zero, List.set_cons_succ]) | (refine wpP_skip rfl (by rfl) ?_; simp only [Act.put, List.setIfInBounds_toArray, List.set_cons_zero, List.set_cons_succ])
            first | (refine wpP_quiet (v := ?_) rfl (by rfl) ?_ ?_; rotate_left; (· (intro w' hw'; go_simp; try with_reducible rfl)); simp only [Act.put, List.setIfInBounds_toArray, List.set_cons_zero, List.set_cons_succ]) | (refine wpP_skip rfl (by rfl) ?_; simp only [Act.put, List.setIfInBounds_toArray, List.set_cons_zero, List.set_cons_succ])
            refine wpP_one ?_
            refine wpP_loud rfl (by rfl) ?_
            intro K hK
            go_simp
            refine hK.out _ _ (RBut.refl_ _ _) ?_
            clear hK K
            try simp only [Act.put, List.setIfInBounds_toArray, List.set_cons_zero, List.set_cons_succ]
            first | (refine wpP_quiet (v := ?_) rfl (by rfl) ?_ ?_; rotate_left; (· (intro w' hw'; go_simp; try with_reducible rfl)); simp only [Act.put, List.setIfInBounds_toArray, List.set_cons_zero, List.set_cons_succ]) | (refine wpP_skip rfl (by rfl) ?_; simp only [Act.put, List.setIfInBounds_toArray, List.set_cons_zero, List.set_cons_succ])
            first | (refine wpP_quiet (v := ?_) rfl (by rfl) ?_ ?_; rotate_left; (· (intro w' hw'; go_simp; try with_reducible rfl)); simp only [Act.put, List.setIfInBounds_toArray, List.set_cons_zero, List.set_cons_succ]) | (refine wpP_skip rfl (by rfl) ?_; simp only [Act.put, List.setIfInBounds_toArray, List.set_cons_zero, List.set_cons_succ])
            refine wpP_one ?_
            refine wpP_loud rfl (by rfl) ?_
            intro K hK
            go_simp
            refine hK.out _ _ (RBut.setC _ _ _ _) ?_
            clear hK K
            try simp only [Act.put, List.setIfInBounds_toArray, List.set_cons_zero, List.set_cons_succ]
            refine wpP_done ?_
            have HO3 := Lib.hid (HO.out.bank b2 hb8 (z2 + 100))
            have u3 : RBut (some P) V2 (V2.setCell ⟨P, 34 + b2, none⟩ (.int .i64 (z2 + 100))) := RBut.setC _ _ _ _
            have ff3 := ff.trans_ (FrS.of_but u3 (by simp))
            clear kb fzb HO ff bsrc u3 ksrc
            generalize V2.setCell ⟨P, 34 + b2, none⟩ (.int .i64 (z2 + 100)) = V3 at *
            have HO := HO3
            have ff := ff3
            clear HO3 ff3
            go_wp2_with fail
            go_roundw
            case rel => exact ⟨j + 1, bk.set b2 (z2 + 100), by go_num, hlj, (show _ = _ by
              rw [← HR.out, HD.out, if_pos ⟨hjq, HT4.out⟩]
              unfold addB
              rw [hz2]), (show BkB _ _ from by
              have := HJ.out.add hb28 (z := 100) (by decide)
              unfold addB at this
              rw [hz2] at this
              exact this.up (by omega)), HO, ff⟩
            case measure => simp [intOf]; omega
      · obtain rfl : j = l.length := by omega
        have t1 : ¬ (l.length : Int) < (l.length : Int) := by omega
        go_wp2_with fail
        refine bodyPost_end (results_none rfl _ _ _) rfl ?_
        refine ⟨rfl, ff, ?_⟩
        have hr := HR.out
        rw [List.drop_eq_nil_of_le (by rw [← HXS.out, ← HO.out.ml, List.length_map]; exact Nat.le_refl _), refB] at hr
        have e1 : settleC c x q s = { c1 with bank := bk } := by
          unfold settleC
          rw [if_neg (by rw [hwon]; decide), hr, HA.out, Int.toNat_natCast, ← HC1.out, ← HX1.out, ← HB0.out]
          unfold addB
          rw [HZ0.out, HCB.out]
        have e2 : settleX x s = x1 := by
          unfold settleX
          rw [if_neg (by rw [hwon]; decide)]
          exact HX1.out
        rw [e1, e2]
        exact HO.out
end Go.Proofs.Ytdopgooglicaiaa
/- The walk of court's lay, of a court of one claim that was sued. -/
set_option linter.unusedSimpArgs false
set_option linter.unusedVariables false
namespace Go.Proofs.Ytdopgooglicaiaa
open Go.RowKit
set_option maxRecDepth 100000
def layS (s : SU) (g : GD) (hs : List (List UInt8)) : SU := { s with g := g, hs := hs }
def layX0 (x : CL) (q : Nat) (s : SU) : CL := { x with suits := x.suits.set q s }
def layX (x : CL) (q : Nat) (s : SU) : CL := if s.g.turn = 4 then settleX (layX0 x q s) s else layX0 x q s
def layC (c : CO) (x : CL) (q : Nat) (s : SU) : CO := if s.g.turn = 4 then settleC { c with claims := [layX0 x q s] } (layX0 x q s) q s else { c with claims := [layX0 x q s] }
theorem g_turn {v : Value} {d : GD} (h : GLen d) : (gcells v d)[99]? = some (.int .i64 d.turn) := g_tail h 0
set_option maxRecDepth 100000 in
set_option maxHeartbeats 4000000 in
theorem lay_any {w : World} {P T CB SB cC cS : Nat} {rest srest : List Value} {l : List (Value × SU)} {c : CO} {x : CL} (h : OneM w P T CB SB cC cS rest srest l c x) (q : Nat) (u : Value) (s : SU) (hq : l[q]? = some (u, s)) (v : Value) (g : GD) (hs : List (List UInt8))
    (hok : (layS s g hs).ok) (hv : HsX [P, CB, SB] w v hs) (hby : 0 ≤ x.by_ ∧ x.by_ < 8) (hsb : ∀ y ∈ x.suits, 0 ≤ y.by_ ∧ y.by_ < 8) (hbk : BkB 10000000 c.bank) :
    Calls Try.prog 62 #[.pointer (some ⟨P, 0, none⟩), .int .i64 0, .int .i64 (q : Int), gval v g] w fun e w' => e = .returned (.tuple #[]) ∧ FrS [P, CB, SB] w w' ∧ OneM w' P T CB SB cC cS rest srest (l.set q (v, layS s g hs)) (layC c x q (layS s g hs)) (layX x q (layS s g hs)) := by
  have hlt : q < l.length := (List.getElem?_eq_some_iff.1 hq).1
  have hs1 := h.s1
  have hnl : l.length ≤ 4096 := by
    have := h.xok.n
    rw [← h.ml, List.length_map] at this
    exact this
  have hP0 := h.bp.lt
  have hC0 := h.bc.lt
  have hS0 := h.bs.lt
  have t0 : (q : Int) < (l.length : Int) := by omega
  have HQ := Lib.hid hq
  have HOK := Lib.hid hok
  have HBY := Lib.hid hby
  have HSB := Lib.hid hsb
  have HBK := Lib.hid hbk
  have HLT := Lib.hid hlt
  have HSQ : Hid (0 ≤ s.by_ ∧ s.by_ < 8) := Lib.hid (hsb s (mem_snd h.ml (List.mem_of_getElem? hq)))
  have HV1 : Hid (v.oneCell' = true) := Lib.hid hv.one
  have HIG := Lib.hid (info_game (v := v) hok.g)
  have hgl := gcells_len (v := v) hok.g
  have HBD : Hid (q * 106 + 1 + (gcells v g).length ≤ (rows suF l ++ srest).length) := (show _ ≤ _ by
    rw [show (gcells v g).length = 105 from hgl, List.length_append, rows_len' l h.suF_len_]
    omega)
  obtain ⟨W, HW, hbw, bg⟩ : ∃ W, Hid (W = w.alloc (.cells (gcells v g).toArray 42)) ∧ Below w.heap.size w W ∧ Blk W w.heap.size 42 (gcells v g) :=
    ⟨_, rfl, (Below.refl _ _).alloc (Nat.le_refl _) _, Blk.new w (gcells v g).toArray 42⟩
  have HO := Lib.hid (h.to hbw)
  have HV := Lib.hid (hv.to hbw)
  have ff : FrS [P, CB, SB] w W := FrS.of_below hbw
  have HNB := Lib.hid (show w.heap.size ≠ SB by omega)
  clear h hq hok hby hsb hbk hlt hv hgl hbw
  unfold gval
  go_enter Try.func62, Try.ntmps62
  go_upto_region 1 with fail
  refine wp_at HW.out ?_
  clear HW
  refine wp_region_P (.take 0 (.take 1 (.take 2 (.take 3 (.take 4 (.take 5 (.take 6 (.take 7 (.take 8 (.take 9 (.take 10 (.take 11 (.one 12 .done))))))))))))) (RBut (some SB)) (by kernel_rfl) (by kernel_rfl) (by kernel_rfl) (by decide +kernel) (RBut.refl_ _) (RBut.trans_ _) (by intro d v c a w h; first | (cases d <;> exact h) | exact absurd h.1 (by simp)) ?_
  have HOD := Lib.hid HO.out.drew
  have bgd : Blk W.drew w.heap.size 42 (gcells v g) := bg
  have HVD := Lib.hid HV.out.drew
  have ffd : FrS [P, CB, SB] w W.drew := ff.trans_ (FrS.of_below (Below.refl _ _).drew)
  clear HO bg HV ff
  generalize W.drew = V2 at *
  have HO := HOD
  have bg := bgd
  have HV := HVD
  have ff := ffd
  clear HOD bgd HVD ffd
  first | (refine wpP_quiet (v := ?_) rfl (by rfl) ?_ ?_; rotate_left; (· (intro w' hw'; go_simp; try with_reducible rfl)); simp only [Act.put, List.setIfInBounds_toArray, List.set_cons_zero, List.set_cons_succ]) | (refine wpP_skip rfl (by rfl) ?_; simp only [Act.put, List.setIfInBounds_toArray, List.set_cons_zero, List.set_cons_succ])
  first | (refine wpP_quiet (v := ?_) rfl (by rfl) ?_ ?_; rotate_left; (· (intro w' hw'; go_simp; try with_reducible rfl)); simp only [Act.put, List.setIfInBounds_toArray, List.set_cons_zero, List.set_cons_succ]) | (refine wpP_skip rfl (by rfl) ?_; simp only [Act.put, List.setIfInBounds_toArray, List.set_cons_zero, List.set_cons_succ])
  first | (refine wpP_quiet (v := ?_) rfl (by rfl) ?_ ?_; rotate_left; (· (intro w' hw'; go_simp; try with_reducible rfl)); simp only [Act.put, List.setIfInBounds_toArray, List.set_cons_zero, List.set_cons_succ]) | (refine wpP_skip rfl (by rfl) ?_; simp only [Act.put, List.setIfInBounds_toArray, List.set_cons_zero, List.set_cons_succ])
  refine wpP_quiet (v := ?_) rfl (by rfl) ?_ ?_; rotate_left; (· (intro w' hw'; have q0 := (by rw [(HO.out.bp.but hw' (by intro e; injection e with e; exact HO.out.n3 e)).cell]; exact co_claims HO.out.ok.pre HO.out.ok.bank : w'.cell? ⟨P, 42, none⟩ = some (.slice (some ⟨CB, 0, none⟩) 1 cC)); go_simp; try with_reducible rfl)); simp only [Act.put, List.setIfInBounds_toArray, List.set_cons_zero, List.set_cons_succ]
  first | (refine wpP_quiet (v := ?_) rfl (by rfl) ?_ ?_; rotate_left; (· (intro w' hw'; go_simp; try with_reducible rfl)); simp only [Act.put, List.setIfInBounds_toArray, List.set_cons_zero, List.set_cons_succ]) | (refine wpP_skip rfl (by rfl) ?_; simp only [Act.put, List.setIfInBounds_toArray, List.set_cons_zero, List.set_cons_succ])
  first | (refine wpP_quiet (v := ?_) rfl (by rfl) ?_ ?_; rotate_left; (· (intro w' hw'; go_simp; try with_reducible rfl)); simp only [Act.put, List.setIfInBounds_toArray, List.set_cons_zero, List.set_cons_succ]) | (refine wpP_skip rfl (by rfl) ?_; simp only [Act.put, List.setIfInBounds_toArray, List.set_cons_zero, List.set_cons_succ])
  first | (refine wpP_quiet (v := ?_) rfl (by rfl) ?_ ?_; rotate_left; (· (intro w' hw'; go_simp; try with_reducible rfl)); simp only [Act.put, List.setIfInBounds_toArray, List.set_cons_zero, List.set_cons_succ]) | (refine wpP_skip rfl (by rfl) ?_; simp only [Act.put, List.setIfInBounds_toArray, List.set_cons_zero, List.set_cons_succ])
  refine wpP_quiet (v := ?_) rfl (by rfl) ?_ ?_; rotate_left; (· (intro w' hw'; have q0 := (by rw [(HO.out.bc.but hw' (by intro e; injection e with e; exact HO.out.n6 e)).cell, List.getElem?_append_left (by rw [clF_len HO.out.xok.root]; decide)]; exact cl_suits HO.out.xok.root : w'.cell? ⟨CB, 36, none⟩ = some (.slice (some ⟨SB, 0, none⟩) l.length cS)); go_simp; try with_reducible rfl)); simp only [Act.put, List.setIfInBounds_toArray, List.set_cons_zero, List.set_cons_succ]
  first | (refine wpP_quiet (v := ?_) rfl (by rfl) ?_ ?_; rotate_left; (· (intro w' hw'; go_simp; try with_reducible rfl)); simp only [Act.put, List.setIfInBounds_toArray, List.set_cons_zero, List.set_cons_succ]) | (refine wpP_skip rfl (by rfl) ?_; simp only [Act.put, List.setIfInBounds_toArray, List.set_cons_zero, List.set_cons_succ])
  refine wpP_load rfl (by rfl) _ _ rfl w.heap.size 0 rfl (gcells v g) _ (fun w' hw' => (bg.but hw' (by intro e; injection e with e; exact HNB.out e)).range) Try.underlying42 rfl HIG.out ?_; simp only [Act.put, List.setIfInBounds_toArray, List.set_cons_zero, List.set_cons_succ]
  first | (refine wpP_quiet (v := ?_) rfl (by rfl) ?_ ?_; rotate_left; (· (intro w' hw'; go_simp; try with_reducible rfl)); simp only [Act.put, List.setIfInBounds_toArray, List.set_cons_zero, List.set_cons_succ]) | (refine wpP_skip rfl (by rfl) ?_; simp only [Act.put, List.setIfInBounds_toArray, List.set_cons_zero, List.set_cons_succ])
  first | (refine wpP_quiet (v := ?_) rfl (by rfl) ?_ ?_; rotate_left; (· (intro w' hw'; go_simp; try with_reducible rfl)); simp only [Act.put, List.setIfInBounds_toArray, List.set_cons_zero, List.set_cons_succ]) | (refine wpP_skip rfl (by rfl) ?_; simp only [Act.put, List.setIfInBounds_toArray, List.set_cons_zero, List.set_cons_succ])
  refine wpP_one ?_
  refine wpP_loud rfl (by rfl) ?_
  intro K hK
  refine wp_store_fld _ _ _ rfl SB (q * 106 + 1) _ _ (gcells v g) rfl _ rfl rfl HO.out.bs HBD.out HIG.out (gcells_one HV1.out) ?_
  intro V3 bS3 bu3
  refine hK.out _ _ bu3 ?_
  clear hK K
  try simp only [Act.put, List.setIfInBounds_toArray, List.set_cons_zero, List.set_cons_succ]
  refine wpP_done ?_
  have HO3 := Lib.hid (HO.out.game HQ.out (u := v) (g := g) (hs := hs) HOK.out.g HOK.out HV.out bu3 bS3)
  have ff3 := ff.trans_ (FrS.of_but bu3 (by simp))
  have bg3 := bg.but bu3 (by intro e; injection e with e; exact HNB.out e)
  clear HO bg ff bS3 bu3 HV
  have HG := HOK.out.g
  have kt : V3.cell? ⟨w.heap.size, 99, none⟩ = some (.int .i64 g.turn) := by rw [bg3.cell]; exact g_turn HG
  have HO4 : Hid (OneM V3 P T CB SB cC cS rest srest (l.set q (v, layS s g hs)) { c with claims := [layX0 x q (layS s g hs)] } (layX0 x q (layS s g hs))) := HO3
  clear HO3 HG bg3
  by_cases ht : g.turn = 4
  · rw [ht] at kt
    go_wp2_with fail
    refine (settle_any HO4.out q v (layS s g hs) (by rw [List.getElem?_set_self HLT.out]) HV1.out HBY.out (fun y hy => ?_) HBK.out).mono ?_
    · rcases List.mem_or_eq_of_mem_set hy with h1 | h1
      · exact HSB.out y h1
      · rw [h1]
        exact HSQ.out
    · rintro e w9 ⟨rfl, f9, h9⟩
      go_wp2_with fail
      refine bodyPost_end (results_none rfl _ _ _) rfl ?_
      refine ⟨rfl, ff3.trans_ f9, ?_⟩
      unfold layC layX
      rw [if_pos (show (layS s g hs).g.turn = 4 from ht), if_pos (show (layS s g hs).g.turn = 4 from ht)]
      exact h9
  · obtain ⟨tu, htu⟩ : ∃ tu, g.turn = tu := ⟨_, rfl⟩
    rw [htu] at kt
    have HT := Lib.hid ht
    have t4 : (tu == 4) = false := by rw [← htu]; simpa using ht
    have t5 : ¬ tu = 4 := by rw [← htu]; exact ht
    clear ht htu
    go_wp2_with fail
    refine bodyPost_end (results_none rfl _ _ _) rfl ?_
    refine ⟨rfl, ff3, ?_⟩
    unfold layC layX
    rw [if_neg (show ¬ (layS s g hs).g.turn = 4 from HT.out), if_neg (show ¬ (layS s g hs).g.turn = 4 from HT.out)]
    exact HO4.out
end Go.Proofs.Ytdopgooglicaiaa
/- Walks: the moves that court hands on (Middle's and Side's function literals). -/
set_option linter.unusedSimpArgs false
set_option linter.unusedVariables false
namespace Go.Proofs.Ytdopgooglicaiaa
open Go.RowKit
set_option maxRecDepth 100000
set_option maxRecDepth 100000 in
set_option maxHeartbeats 2000000 in
theorem middleFn_any (A : Option Addr) (n c : Nat) (hs : List (List UInt8)) (d : GD) (hd : GLen d) (mid : List UInt8) (hm : mid.length = 32) (b : Nat) (now : Int) (w : World) (h : Sl w 32 A n (H8 hs)) (hn : n ≤ 4194304) (bm : Blk w b 25 (B8 mid)) (m1 : 0 ≤ d.moves) (m2 : d.moves ≤ 1099511627776) :
    Calls Try.prog 37 #[gval (.slice A n c) d, .int .i64 now, .pointer (some ⟨b, 0, none⟩)] w (RGe w hs n (sayD d mid now)) := by
  obtain ⟨W, HW, hbw, gb, zb⟩ := box_game w (.slice A n c) d hd
  have hW := h.to hbw
  have bmW := bm.to hbw
  have HM := Lib.hid hm
  have hz := zb.lt
  have hbl := bm.lt
  clear hm bm
  unfold gval
  go_enter Try.func37, Try.ntmps37
  go_upto_region 1 with fail
  refine wp_at HW.out ?_
  clear HW
  go_wp2_with (first
    | (refine wpl_gload gb (by rfl) _ _ rfl rfl _ Try.underlying42 rfl info_g ?_)
    | (refine wpl_load_fld (by rfl) _ _ rfl b 0 rfl (B8 mid) _ bmW.range Try.underlying25 rfl (info_hash HM.out) ?_))
  refine (say_any A n c hs d hd mid now W hW hn HM.out m1 m2).mono ?_
  rintro e w1 ⟨A1, c1, rfl, sl1, hb1, fr1, le1⟩
  have zb1 := zb.to hb1
  have f1 := hbw.trans (hb1.mono hbw.size)
  have hl1 : GLen (sayD d mid now).1 := by
    unfold sayD
    split
    · exact ⟨hd.1, hd.2, HM.out⟩
    · exact hd
  dsimp only
  go_wp2_with (first
    | (refine wpl_gput zb1 zero_len hl1 rfl (by rfl) _ _ _ rfl rfl rfl info_g ?_
       intro w2 gb2 bu2))
  refine bodyPost_ret (results_blk2 Try.results37 rfl rfl gb2.blk Try.underlying42 rfl (info_game gb2.len)) rfl ?_
  refine ⟨A1, c1, rfl, sl1.but2 bu2 (fun b hb e => by injection e with e; have := fr1 b hb; omega), f1.trans (below_but bu2 (by omega) f1.size), fun b hb => by have := fr1 b hb; omega, le1⟩
set_option maxRecDepth 100000 in
set_option maxHeartbeats 2000000 in
theorem sideFn_any (A : Option Addr) (n c : Nat) (hs : List (List UInt8)) (d : GD) (hd : GLen d) (right : Bool) (b : Nat) (now : Int) (w : World) (h : Sl w 32 A n (H8 hs)) (hn : n ≤ 4194304) (hbl : b < w.heap.size) (kb : w.cell? ⟨b, 0, none⟩ = some (.bool right)) (m1 : 0 ≤ d.moves) (m2 : d.moves ≤ 1099511627776)
    (l1 : 0 ≤ d.lo) (l2 : d.lo ≤ d.hi) (l3 : d.hi ≤ 1099511627776) :
    Calls Try.prog 45 #[gval (.slice A n c) d, .int .i64 now, .pointer (some ⟨b, 0, none⟩)] w (RGe w hs n (chooseD d right now)) := by
  obtain ⟨W, HW, hbw, gb, zb⟩ := box_game w (.slice A n c) d hd
  have hW := h.to hbw
  have kW : W.cell? ⟨b, 0, none⟩ = some (.bool right) := by rw [hbw.cell hbl]; exact kb
  have hz := zb.lt
  clear kb
  unfold gval
  go_enter Try.func45, Try.ntmps45
  go_upto_region 1 with fail
  refine wp_at HW.out ?_
  clear HW
  go_wp2_with (first
    | (refine wpl_gload gb (by rfl) _ _ rfl rfl _ Try.underlying42 rfl info_g ?_))
  refine (choose_any A n c hs d hd right now W hW hn m1 m2 l1 l2 l3).mono ?_
  rintro e w1 ⟨A1, c1, rfl, sl1, hb1, fr1, le1⟩
  have zb1 := zb.to hb1
  have f1 := hbw.trans (hb1.mono hbw.size)
  have hl1 : GLen (chooseD d right now).1 := by
    unfold chooseD
    split
    · cases right
      · exact ⟨hd.1, hd.3, rfl⟩
      · exact ⟨hd.3, hd.2, rfl⟩
    · exact hd
  dsimp only
  go_wp2_with (first
    | (refine wpl_gput zb1 zero_len hl1 rfl (by rfl) _ _ _ rfl rfl rfl info_g ?_
       intro w2 gb2 bu2))
  refine bodyPost_ret (results_blk2 Try.results45 rfl rfl gb2.blk Try.underlying42 rfl (info_game gb2.len)) rfl ?_
  refine ⟨A1, c1, rfl, sl1.but2 bu2 (fun b hb e => by injection e with e; have := fr1 b hb; omega), f1.trans (below_but bu2 (by omega) f1.size), fun b hb => by have := fr1 b hb; omega, le1⟩
end Go.Proofs.Ytdopgooglicaiaa
/- Walks: which suit of a claim a party's is (slices.IndexFunc at suits, court.find). -/
set_option linter.unusedSimpArgs false
set_option linter.unusedVariables false
namespace Go.Proofs.Ytdopgooglicaiaa
open Go.RowKit
set_option maxRecDepth 100000
/-- the place of a party's suit; -1: there is none -/
def findS (by_ : Int) : List SU → Int → Int
  | [], _ => -1
  | s :: l, k => if s.by_ = by_ then k else findS by_ l (k + 1)
set_option maxRecDepth 100000 in
theorem findOne_any (v : Value) (s : SU) (i : Int) (b : Nat) (w : World) (hb : b < w.heap.size) (k : w.cell? ⟨b, 0, none⟩ = some (.int .i64 i)) :
    Calls Try.prog 57 #[.agg (suF (v, s)).toArray, .pointer (some ⟨b, 0, none⟩)] w (RB (decide (s.by_ = i)) w) := by
  obtain ⟨W, HW, hbw, ba⟩ : ∃ W, Hid (W = w.alloc (.cells (suF (v, s)).toArray 44)) ∧ Below w.heap.size w W ∧ Blk W w.heap.size 44 (suF (v, s)) :=
    ⟨_, rfl, (Below.refl _ _).alloc (Nat.le_refl _) _, Blk.new w (suF (v, s)).toArray 44⟩
  have ka : W.cell? ⟨w.heap.size, 0, none⟩ = some (.int .i64 s.by_) := by rw [ba.cell]; exact su_by
  have kb : W.cell? ⟨b, 0, none⟩ = some (.int .i64 i) := by rw [hbw.cell hb]; exact k
  have hd : (s.by_ == i) = decide (s.by_ = i) := rfl
  go_enter Try.func57, Try.ntmps57
  go_upto_region 1 with fail
  refine wp_at HW.out ?_
  clear HW
  go_wp2_with fail
  go_ret
  exact ⟨by rfl, hbw⟩
theorem findS_at : ∀ (ss : List SU) (i : Int) (q : Nat) (k : Int), (∀ j s, ss[j]? = some s → j < q → s.by_ ≠ i) → q ≤ ss.length → findS i ss k = findS i (ss.drop q) (k + q)
  | _, _, 0, k, _, _ => by simp
  | [], _, q + 1, k, _, h => by simp at h
  | s :: l, i, q + 1, k, h, hq => by
    have h0 := h 0 s rfl (by omega)
    rw [findS, if_neg h0, findS_at l i q (k + 1) (fun j s hs hj => h (j + 1) s hs (by omega)) (by simp at hq; omega), List.drop_succ_cons]
    congr 1
    omega
set_option maxRecDepth 100000 in
set_option maxHeartbeats 4000000 in
theorem index_any (v : Value) (ss : List SU) (hok : ∀ s ∈ ss, s.ok) (i : Int) (b : Nat) (w : World) (hb : b < w.heap.size) (kb : w.cell? ⟨b, 0, none⟩ = some (.int .i64 i)) (h : SuX [] w v ss) (hlen : ss.length ≤ 4096) :
    Calls Try.prog 56 #[v, .func (.func 57) #[] #[.pointer (some ⟨b, 0, none⟩)]] w fun e w' => e = .returned (.int .i64 (findS i ss 0)) ∧ Below w.heap.size w w' := by
  obtain ⟨A, n, c, l, rfl, sl, hm, hn, _, _, hh⟩ := h
  have hl : ss.length = n := by rw [← hm, List.length_map]; exact hn
  have hnm : n ≤ 4096 := by omega
  have HOK := Lib.hid hok
  have HM := Lib.hid hm
  have HN := Lib.hid hl
  have HH := Lib.hid hh
  have hr1 : ∀ a ∈ l, (suF a).length = 106 := fun a ha => suF_len (hok a.2 (mem_snd hm ha)).g
  have HR1 := Lib.hid hr1
  have KB := Lib.hid kb
  clear hok hm hh hr1 hn hl hlen kb
  go_enter Try.func56, Try.ntmps56
  go_wp2_with fail
  go_loopw [8] (fun k wr => ∃ q : Nat, k = .int .i64 (q : Int) ∧ q ≤ n ∧ Hid (∀ j s, ss[j]? = some s → j < q → s.by_ ≠ i) ∧ Below w.heap.size w wr) (fun k _ => n - (intOf k).toNat)
  case atStart => exact ⟨0, rfl, Nat.zero_le _, (show ∀ j s, ss[j]? = some s → j < 0 → s.by_ ≠ i from fun _ _ _ h => absurd h (Nat.not_lt_zero _)), Below.refl _ _⟩
  case round =>
    obtain ⟨q, rfl, hq, HP, hf⟩ := hrel
    have HF : Hid (findS i ss 0 = findS i (ss.drop q) (q : Int)) := (show _ = _ by rw [findS_at ss i q 0 HP.out (by rw [HN.out]; exact hq)]; congr 1; omega)
    by_cases hlt : q < n
    · have t1 : (q : Int) < (n : Int) := by omega
      obtain ⟨s, hs⟩ : ∃ s, ss[q]? = some s := ⟨_, List.getElem?_eq_getElem (by rw [HN.out]; exact hlt)⟩
      have HSO : Hid s.ok := HOK.out s (List.mem_of_getElem? hs)
      obtain ⟨u1, hu1⟩ := snd_get HM.out hs
      obtain ⟨b1, o1, rfl, hb1⟩ := sl.some_ (by omega)
      have slr := sl.to hf
      have rg1 : wr.rangeAt b1 (o1 + q * 106) (suF (u1, s)) := fun j v hv => by
        rw [Nat.add_assoc]
        refine slr.cell ?_
        have hj : j < 106 := by have := (List.getElem?_eq_some_iff.1 hv).1; rw [suF_len (p := (u1, s)) HSO.out.g] at this; exact this
        have := rows_get l HR1.out [] hu1 hj
        rw [List.append_nil] at this
        rw [this]
        exact hv
      have I1 := Lib.hid (info_su (p := (u1, s)) HSO.out.g)
      have hbr : b < wr.heap.size := Nat.lt_of_lt_of_le hb hf.size
      have HD : Hid (ss.drop q = s :: ss.drop (q + 1)) := (show _ = _ by
        obtain ⟨hlt2, he⟩ := List.getElem?_eq_some_iff.1 hs
        rw [List.drop_eq_getElem_cons hlt2, he])
      have HS := Lib.hid hs
      clear hs
      go_wp2_with (first
        | (refine wpl_load_fld (by rfl) _ _ rfl b1 (o1 + q * 106) rfl (suF (u1, s)) _ rg1 Try.underlying44 rfl I1.out ?_))
      refine (findOne_any u1 s i b wr hbr (by rw [hf.cell hb]; exact KB.out)).mono ?_
      rintro e w6 ⟨rfl, hb6⟩
      have f6 := hf.trans (hb6.mono hf.size)
      by_cases he : s.by_ = i
      · rw [decide_eq_true he]
        go_wp2_with fail
        go_ret
        have hz : findS i ss 0 = (q : Int) := by rw [HF.out, HD.out, findS, if_pos he]
        exact ⟨by rw [hz]; rfl, f6⟩
      · rw [decide_eq_false he]
        go_wp2_with fail
        go_roundw
        case rel => exact ⟨q + 1, by go_num, by omega, (show ∀ j s, ss[j]? = some s → j < q + 1 → s.by_ ≠ i from fun j s' hs' hj => by
          rcases Nat.lt_succ_iff_lt_or_eq.1 hj with h | h
          · exact HP.out j s' hs' h
          · subst h
            rw [HS.out] at hs'
            injection hs' with hs'
            rw [← hs']
            exact he), f6⟩
        case measure => simp [intOf]; omega
    · obtain rfl : q = n := by omega
      have t1 : ¬ (q : Int) < (q : Int) := by omega
      go_wp2_with fail
      go_ret
      have hz : findS i ss 0 = -1 := by rw [HF.out, List.drop_eq_nil_of_le (by rw [HN.out]; exact Nat.le_refl _)]; rfl
      exact ⟨by rw [hz]; rfl, hf⟩
/-- which suit of a court's claim is a party's -/
def findC (c : CO) (by_ claim : Int) : Int := if 0 ≤ claim ∧ claim < (c.claims.length : Int) then findS by_ (c.claims.getD claim.toNat ⟨0, 0, 0, 0, [], []⟩).suits 0 else -1
set_option maxRecDepth 100000 in
set_option maxHeartbeats 4000000 in
theorem findC_any (v : Value) (c : CO) (hc : c.ok) (i k : Int) (w : World) (h : CoX [] w v c) : Calls Try.prog 32 #[v, .int .i64 i, .int .i64 k] w fun e w' => e = .returned (.int .i64 (findC c i k)) ∧ Below w.heap.size w w' := by
  obtain ⟨vt, vc, rfl, ht, ⟨Ac, n, cc, l, rfl, slc, hml, hln, _, _, hsu⟩⟩ := h
  obtain ⟨W, HW, hbw, bp, bb⟩ : ∃ W, Hid (W = (w.alloc (.cells (coC vt (.slice Ac n cc) c).toArray 30)).alloc (.cells #[.int .i64 i] 3)) ∧ Below w.heap.size w W ∧
      Blk W w.heap.size 30 (coC vt (.slice Ac n cc) c) ∧ Blk W (w.heap.size + 1) 3 [.int .i64 i] := by
    refine ⟨_, rfl, ((Below.refl _ _).alloc (Nat.le_refl _) _).alloc (by simp) _, ?_, ?_⟩
    · exact (Blk.new w (coC vt (.slice Ac n cc) c).toArray 30).to ((Below.refl _ _).alloc (Nat.le_refl _) _)
    · have := Blk.new (w.alloc (.cells (coC vt (.slice Ac n cc) c).toArray 30)) #[.int .i64 i] 3
      rw [show (w.alloc (.cells (coC vt (.slice Ac n cc) c).toArray 30)).heap.size = w.heap.size + 1 from by simp] at this
      exact this
  have hN : c.claims.length = n := by rw [← hml, List.length_map]; exact hln
  have HC := Lib.hid hc
  have HML := Lib.hid hml
  have HN := Lib.hid hN
  have HSU := Lib.hid hsu
  have hWz := bb.lt
  have k42 : W.cell? ⟨w.heap.size, 42, none⟩ = some (.slice Ac n cc) := by rw [bp.cell]; exact co_claims hc.pre hc.bank
  have kb : W.cell? ⟨w.heap.size + 1, 0, none⟩ = some (.int .i64 i) := by rw [bb.cell]; rfl
  have slW := slc.to hbw
  clear hc hml hln hN hsu slc
  by_cases hk : 0 ≤ k ∧ k < (n : Int)
  · obtain ⟨q, rfl⟩ : ∃ q : Nat, k = (q : Int) := ⟨k.toNat, by omega⟩
    have hq : q < n := by omega
    have t1 : ¬ (n : Int) ≤ (q : Int) := by omega
    obtain ⟨x, hx⟩ : ∃ x, c.claims[q]? = some x := ⟨_, List.getElem?_eq_getElem (by rw [HN.out]; exact hq)⟩
    have HXO : Hid x.ok := HC.out.claims x (List.mem_of_getElem? hx)
    obtain ⟨u, hu⟩ := snd_get HML.out hx
    have HX := Lib.hid (HSU.out (u, x) (List.mem_of_getElem? hu))
    have HF : Hid (findC c i (q : Int) = findS i x.suits 0) := (show _ = _ by
      unfold findC
      rw [if_pos (by rw [HN.out]; exact hk), Int.toNat_natCast, List.getD_eq_getElem?_getD, hx]
      rfl)
    obtain ⟨b1, o1, rfl, hb1⟩ := slW.some_ (by omega)
    have hr1 : ∀ a ∈ l, (clF a).length = 37 := fun a ha => clF_len (HC.out.claims a.2 (mem_snd HML.out ha)).root
    have ku : W.cell? ⟨b1, o1 + q * 37 + 36, none⟩ = some u := by
      rw [Nat.add_assoc]
      refine slW.cell ?_
      have := rows_get l hr1 [] hu (j := 36) (by decide)
      rw [List.append_nil] at this
      rw [this]
      exact cl_suits HXO.out.root
    clear hr1 hu hx
    go_enter Try.func32, Try.ntmps32
    go_upto_region 1 with fail
    refine wp_at HW.out ?_
    clear HW
    go_wp2_with fail
    refine (index_any u x.suits HXO.out.suits i (w.heap.size + 1) W hWz kb (HX.out.to hbw) HXO.out.n).mono ?_
    rintro e w1 ⟨rfl, hb2⟩
    go_wp2_with fail
    go_ret
    exact ⟨by rw [HF.out]; rfl, hbw.trans (hb2.mono hbw.size)⟩
  · have HF : Hid (findC c i k = -1) := (show _ = _ by unfold findC; rw [HN.out, if_neg hk])
    go_enter Try.func32, Try.ntmps32
    go_upto_region 1 with fail
    refine wp_at HW.out ?_
    clear HW
    by_cases h0 : k < 0
    · go_wp2_with fail
      go_ret
      exact ⟨by rw [HF.out]; rfl, hbw⟩
    · have t1 : (n : Int) ≤ k := by omega
      go_wp2_with fail
      go_ret
      exact ⟨by rw [HF.out]; rfl, hbw⟩
end Go.Proofs.Ytdopgooglicaiaa
/- The walk of court.Say. -/
set_option linter.unusedSimpArgs false
set_option linter.unusedVariables false
namespace Go.Proofs.Ytdopgooglicaiaa
open Go.RowKit
set_option maxRecDepth 100000
/-- what a claim makes of a court -/
def saidC (c : CO) (b : Nat) (n : Int) (root : List UInt8) : CO := { c with bank := c.bank.set b (c.bank.getD b 0 - 100), claims := c.claims ++ [⟨(b : Int), n, c.now, 1, root, []⟩] }
theorem zeroCL_cells : (#[.int .i64 0, .int .i64 0, .int .i64 0, .int .i64 0, .int .u8 0, .int .u8 0, .int .u8 0, .int .u8 0, .int .u8 0, .int .u8 0, .int .u8 0, .int .u8 0, .int .u8 0, .int .u8 0, .int .u8 0, .int .u8 0, .int .u8 0, .int .u8 0, .int .u8 0, .int .u8 0, .int .u8 0, .int .u8 0, .int .u8 0, .int .u8 0, .int .u8 0, .int .u8 0, .int .u8 0, .int .u8 0, .int .u8 0, .int .u8 0, .int .u8 0, .int .u8 0, .int .u8 0, .int .u8 0, .int .u8 0, .int .u8 0, .slice none 0 0] : Array Value) = (clF (.slice none 0 0, zeroCL)).toArray := rfl
theorem fold_claim (p : Value × CL) (h : p.2.root.length = 32) : List.foldl (fun (cs : Array Value) (x : Value × Nat) => cs.setIfInBounds x.2 x.1) #[.int .i64 0, .int .i64 0, .int .i64 0, .int .i64 0, .int .u8 0, .int .u8 0, .int .u8 0, .int .u8 0, .int .u8 0, .int .u8 0, .int .u8 0, .int .u8 0, .int .u8 0, .int .u8 0, .int .u8 0, .int .u8 0, .int .u8 0, .int .u8 0, .int .u8 0, .int .u8 0, .int .u8 0, .int .u8 0, .int .u8 0, .int .u8 0, .int .u8 0, .int .u8 0, .int .u8 0, .int .u8 0, .int .u8 0, .int .u8 0, .int .u8 0, .int .u8 0, .int .u8 0, .int .u8 0, .int .u8 0, .int .u8 0, .slice none 0 0] ((clF p).zipIdx) = (clF p).toArray := by
  apply Array.ext'
  rw [fold_fill' (clF p) 0 _ (by rw [clF_len h]; decide)]
  rw [clF_len h]
  simp
theorem built_claim (b n now : Int) (root : List UInt8) (h : root.length = 32) : Try.prog.built 39 [(0, .int .i64 b), (1, .int .i64 n), (2, .int .i64 now), (3, .int .i64 1), (4, .agg (B8 root).toArray)] = some (clF (.slice none 0 0, ⟨b, n, now, 1, root, []⟩)).toArray := by
  rw [built_struct (z := .agg (clF (.slice none 0 0, zeroCL)).toArray) (places := [(0, 1), (1, 1), (2, 1), (3, 1), (4, 32), (36, 1)]) (by kernel_rfl) Try.underlying39 (by kernel_rfl)]
  rw [show (Value.agg (clF (.slice none 0 0, zeroCL)).toArray).cells = (clF (.slice none 0 0, zeroCL)).toArray from rfl]
  rw [fill_cons _ _ [.int .i64 b] 0 0 _ _ rfl rfl (by rw [clF_len rfl]; simp)]
  rw [show put_ (clF (.slice none 0 0, zeroCL)) 0 [.int .i64 b] = clF (.slice none 0 0, ⟨b, 0, 0, 0, zero32, []⟩) from rfl]
  rw [fill_cons _ _ [.int .i64 n] 1 1 _ _ rfl rfl (by rw [clF_len rfl]; simp)]
  rw [show put_ (clF (.slice none 0 0, ⟨b, 0, 0, 0, zero32, []⟩)) 1 [.int .i64 n] = clF (.slice none 0 0, ⟨b, n, 0, 0, zero32, []⟩) from rfl]
  rw [fill_cons _ _ [.int .i64 now] 2 2 _ _ rfl rfl (by rw [clF_len rfl]; simp)]
  rw [show put_ (clF (.slice none 0 0, ⟨b, n, 0, 0, zero32, []⟩)) 2 [.int .i64 now] = clF (.slice none 0 0, ⟨b, n, now, 0, zero32, []⟩) from rfl]
  rw [fill_cons _ _ [.int .i64 1] 3 3 _ _ rfl rfl (by rw [clF_len rfl]; simp)]
  rw [show put_ (clF (.slice none 0 0, ⟨b, n, now, 0, zero32, []⟩)) 3 [.int .i64 1] = clF (.slice none 0 0, ⟨b, n, now, 1, zero32, []⟩) from rfl]
  rw [fill_cons _ _ (B8 root) 4 4 _ _ (by rw [B8_len, h]; rfl) rfl (by rw [clF_len rfl, B8_len, h]; decide)]
  rw [show put_ (clF (.slice none 0 0, ⟨b, n, now, 1, zero32, []⟩)) 4 (B8 root) = clF (.slice none 0 0, ⟨b, n, now, 1, root, []⟩) from by
    have := put_in [Value.int .i64 b, .int .i64 n, .int .i64 now, .int .i64 1] (B8 zero32) [Value.slice none 0 0] (B8 root) 0 (by rw [B8_len, B8_len, h]; decide)
    rw [put_all _ _ (by rw [B8_len, B8_len, h]; rfl)] at this
    exact this]
  rfl
set_option maxRecDepth 100000 in
set_option maxHeartbeats 4000000 in
theorem sayC_any (v : Value) (c : CO) (hc : c.ok) (i n : Int) (root : List UInt8) (hroot : root.length = 32) (w : World) (h19 : c.claims.length < 20) (h : CoX [] w v c) (r : CO × Int)
    (hr : (¬ (partyB i ∧ 1 ≤ n ∧ n ≤ c.txs.length) ∧ r = (c, 1)) ∨ (partyB i ∧ 1 ≤ n ∧ n ≤ c.txs.length ∧ c.bank.getD i.toNat 0 < 100 ∧ r = (c, 13)) ∨ (partyB i ∧ 1 ≤ n ∧ n ≤ c.txs.length ∧ 100 ≤ c.bank.getD i.toNat 0 ∧ c.bank.getD i.toNat 0 ≤ 1000000 ∧ r = (saidC c i.toNat n root, 0))) :
    Calls Try.prog 12 #[v, .int .i64 i, .int .i64 n, hv root] w (RCe w r.1 r.2) := by
  unfold hv
  obtain ⟨vt, vc, rfl, hx⟩ := h
  have hX : CoX [] w (.agg (coC vt vc c).toArray) c := ⟨vt, vc, rfl, hx⟩
  obtain ⟨W, HW, hbw, bp, br, bz⟩ : ∃ W, Hid (W = ((w.alloc (.cells (coC vt vc c).toArray 30)).alloc (.cells (B8 root).toArray 25)).alloc (.cells #[.int .i64 0, .int .u8 0, .int .u8 0, .int .u8 0, .int .u8 0, .int .u8 0, .int .u8 0, .int .u8 0, .int .u8 0, .int .u8 0, .int .u8 0, .int .u8 0, .int .u8 0, .int .u8 0, .int .u8 0, .int .u8 0, .int .u8 0, .int .u8 0, .int .u8 0, .int .u8 0, .int .u8 0, .int .u8 0, .int .u8 0, .int .u8 0, .int .u8 0, .int .u8 0, .int .u8 0, .int .u8 0, .int .u8 0, .int .u8 0, .int .u8 0, .int .u8 0, .int .u8 0, .slice none 0 0, .int .i64 0, .int .i64 0, .int .i64 0, .int .i64 0, .int .i64 0, .int .i64 0, .int .i64 0, .int .i64 0, .slice none 0 0] 30)) ∧ Below w.heap.size w W ∧
      Blk W w.heap.size 30 (coC vt vc c) ∧ Blk W (w.heap.size + 1) 25 (B8 root) ∧ Blk W (w.heap.size + 2) 30 zeroCC := by
    refine ⟨_, rfl, (((Below.refl _ _).alloc (Nat.le_refl _) _).alloc (by simp) _).alloc (by simp; omega) _, ?_, ?_, ?_⟩
    · exact (Blk.new w (coC vt vc c).toArray 30).to (((Below.refl _ _).alloc (Nat.le_refl _) _).alloc (by simp) _)
    · have := (Blk.new (w.alloc (.cells (coC vt vc c).toArray 30)) (B8 root).toArray 25).to ((Below.refl _ _).alloc (Nat.le_refl _) (.cells #[.int .i64 0, .int .u8 0, .int .u8 0, .int .u8 0, .int .u8 0, .int .u8 0, .int .u8 0, .int .u8 0, .int .u8 0, .int .u8 0, .int .u8 0, .int .u8 0, .int .u8 0, .int .u8 0, .int .u8 0, .int .u8 0, .int .u8 0, .int .u8 0, .int .u8 0, .int .u8 0, .int .u8 0, .int .u8 0, .int .u8 0, .int .u8 0, .int .u8 0, .int .u8 0, .int .u8 0, .int .u8 0, .int .u8 0, .int .u8 0, .int .u8 0, .int .u8 0, .int .u8 0, .slice none 0 0, .int .i64 0, .int .i64 0, .int .i64 0, .int .i64 0, .int .i64 0, .int .i64 0, .int .i64 0, .int .i64 0, .slice none 0 0] 30))
      simpa using this
    · have := Blk.new ((w.alloc (.cells (coC vt vc c).toArray 30)).alloc (.cells (B8 root).toArray 25)) #[.int .i64 0, .int .u8 0, .int .u8 0, .int .u8 0, .int .u8 0, .int .u8 0, .int .u8 0, .int .u8 0, .int .u8 0, .int .u8 0, .int .u8 0, .int .u8 0, .int .u8 0, .int .u8 0, .int .u8 0, .int .u8 0, .int .u8 0, .int .u8 0, .int .u8 0, .int .u8 0, .int .u8 0, .int .u8 0, .int .u8 0, .int .u8 0, .int .u8 0, .int .u8 0, .int .u8 0, .int .u8 0, .int .u8 0, .int .u8 0, .int .u8 0, .int .u8 0, .int .u8 0, .slice none 0 0, .int .i64 0, .int .i64 0, .int .i64 0, .int .i64 0, .int .i64 0, .int .i64 0, .int .i64 0, .int .i64 0, .slice none 0 0] 30
      rw [show ((w.alloc (.cells (coC vt vc c).toArray 30)).alloc (.cells (B8 root).toArray 25)).heap.size = w.heap.size + 2 from by simp] at this
      exact this
  have HC := Lib.hid hc
  have HRT := Lib.hid hroot
  have HR := Lib.hid hr
  have HPR := Lib.hid (And.intro hc.pre hc.bank)
  have ICO := Lib.hid (info_co (vt := vt) (vc := vc) hc.pre hc.bank)
  have hWz := bz.lt
  have hXW := hX.to hbw
  have hvt := hx.1.one
  have hvc := hx.2.one
  have HTL : Hid ((H8 c.txs).length = c.txs.length * 32) := (show _ = _ by rw [H8_len _ hc.txs, Nat.mul_comm])
  have hn4 := hc.n
  clear hc hroot hx hX hr
  go_enter Try.func12, Try.ntmps12
  go_upto_region 1 with fail
  refine wp_at HW.out ?_
  clear HW
  go_wp2_with (first
    | (refine wpl_load_fld (by rfl) _ _ rfl w.heap.size 0 rfl (coC vt vc c) _ bp.range Try.underlying30 rfl ICO.out ?_))
  refine (ownC_any _ c HC.out W hXW).mono ?_
  rintro e w1 ⟨T, vc1, rfl, hT, bT, hcl, hb1⟩
  obtain ⟨A, nC, cC, l, rfl, ow, hml, hln, hsu⟩ := hcl
  have bp1 := bp.to hb1
  have br1 := br.to hb1
  have bz1 := bz.to hb1
  have f1 := hbw.trans (hb1.mono hbw.size)
  have IC1 := Lib.hid (info_co (vt := .slice (some ⟨T, 0, none⟩) c.txs.length c.txs.length) (vc := .slice A nC cC) HPR.out.1 HPR.out.2)
  have HML := Lib.hid hml
  have HLN := Lib.hid hln
  have HSU := Lib.hid hsu
  have hnC : nC < 20 := by rw [← hln, ← List.length_map (f := (·.2)), hml]; exact h19
  clear bp br bz hb1 hbw hXW ICO hml hln hsu
  go_wp2_with (first
    | (refine wpl_store_fld (by rfl) _ _ _ rfl w.heap.size 0 _ _ (coC (.slice (some ⟨T, 0, none⟩) c.txs.length c.txs.length) (.slice A nC cC) c) rfl _ rfl rfl bp1 (by rw [coC_len HPR.out.1 HPR.out.2, coC_len HPR.out.1 HPR.out.2]; exact Nat.le_refl _) IC1.out (coC_one rfl rfl) ?_
       intro w2 bp2 bu2
       rw [put_all _ _ (by rw [coC_len HPR.out.1 HPR.out.2, coC_len HPR.out.1 HPR.out.2])] at bp2))
  have k33 : w2.cell? ⟨w.heap.size, 33, none⟩ = some (.slice (some ⟨T, 0, none⟩) c.txs.length c.txs.length) := by rw [bp2.cell]; exact co_txs HPR.out.1
  have k42 : w2.cell? ⟨w.heap.size, 42, none⟩ = some (.slice A nC cC) := by rw [bp2.cell]; exact co_claims HPR.out.1 HPR.out.2
  have k0 : w2.cell? ⟨w.heap.size, 0, none⟩ = some (.int .i64 c.now) := by rw [bp2.cell]; exact co_now
  have bT2 := bT.but bu2 (by intro e; injection e; omega)
  have br2 := br1.but bu2 (by intro e; injection e; omega)
  have bz2 := bz1.but bu2 (by intro e; injection e; omega)
  have ow2 := own_but ow bu2 (fun k hk => by injection hk; omega)
  have f2 := f1.trans (below_but bu2 (Nat.le_refl _) f1.size)
  have HSU2 : Hid (∀ p ∈ l, SuO w2 (bnd A) p.1 p.2.suits) := (show ∀ p ∈ l, SuO w2 (bnd A) p.1 p.2.suits from fun p hp => (HSU.out p hp).but bu2 (by
    cases A with
    | none => have := none_len ow; have := HLN.out; have := List.length_pos_of_mem hp; omega
    | some a => have := (ow.lt a.block rfl).1; simp only [bnd]; omega))
  have HX2 : Hid (∀ S : List Nat, (∀ b ∈ S, b < T) → CoX S w2 (.agg (coC (.slice (some ⟨T, 0, none⟩) c.txs.length c.txs.length) (.slice A nC cC) c).toArray) c) := (show ∀ S : List Nat, (∀ b ∈ S, b < T) → CoX S _ _ _ from fun S hS => ⟨_, _, rfl, ⟨_, _, _, rfl, bT2.sl HTL.out, rfl, Nat.le_refl _, fun b hb hm => by have hb' : T = b := (by injection hb); have := hS b hm; omega⟩, ClO.x (B := T + 1) ⟨A, nC, cC, l, rfl, ow2, HML.out, HLN.out, HSU2.out⟩ (fun b hb => by have := hS b hb; omega)⟩)
  clear bT bu2 br1 bz1 ow f1 bp1 HSU
  by_cases hp : partyB i
  · obtain ⟨b, rfl⟩ : ∃ b : Nat, i = (b : Int) := ⟨i.toNat, by have := hp.1; omega⟩
    have hb8 : b < 8 := by have := hp.2; omega
    refine (party_yes _ w2 hp).mono ?_
    rintro e w' ⟨rfl, rfl⟩
    have kb : w2.cell? ⟨w.heap.size, 34 + b, none⟩ = some (.int .i64 (c.bank.getD b 0)) := by rw [bp2.cell]; exact co_bank HPR.out.1 HPR.out.2 b hb8
    obtain ⟨z, hz⟩ : ∃ z, c.bank.getD b 0 = z := ⟨_, rfl⟩
    rw [hz] at kb
    have HZ := Lib.hid hz
    clear hz
    by_cases hn : 1 ≤ n ∧ n ≤ (c.txs.length : Int)
    · have t1 : ¬ n < 1 := by omega
      have t2 : ¬ (c.txs.length : Int) < n := by omega
      by_cases hlow : z < 100
      · obtain rfl : r = (c, 13) := by
          rcases HR.out with h | h | h
          · exact absurd ⟨hp, hn⟩ h.1
          · exact h.2.2.2.2
          · exact absurd h.2.2.2.1 (by simp only [Int.toNat_natCast]; rw [HZ.out]; omega)
        go_wp2_with (first
          | (refine wpl_load_fld (by rfl) _ _ rfl w.heap.size 0 rfl (coC (.slice (some ⟨T, 0, none⟩) c.txs.length c.txs.length) (.slice A nC cC) c) _ bp2.range Try.underlying30 rfl IC1.out ?_)
          | (refine wpl_store_fld (by rfl) _ _ _ rfl (w.heap.size + 2) 0 _ _ (coC (.slice (some ⟨T, 0, none⟩) c.txs.length c.txs.length) (.slice A nC cC) c) rfl _ rfl rfl bz2 (by rw [coC_len HPR.out.1 HPR.out.2]; exact Nat.le_refl _) IC1.out (coC_one rfl rfl) ?_
             intro w6 bz6 bu6
             rw [put_all _ _ (by rw [coC_len HPR.out.1 HPR.out.2]; rfl)] at bz6))
        refine bodyPost_ret (results_blk2 Try.results12 rfl rfl bz6 Try.underlying30 rfl IC1.out) rfl ?_
        exact ⟨_, rfl, fun S hS => ((HX2.out ((w.heap.size + 2) :: S) (fun b hb => (List.mem_cons.1 hb).elim (fun h => by omega) (fun h => by have := hS b h; omega))).but bu6 (by simp)).less (fun b hb => List.mem_cons_of_mem _ hb), f2.trans (below_but bu6 (by omega) f2.size)⟩
      · obtain ⟨hbk, hbm, hre⟩ : 100 ≤ z ∧ z ≤ 1000000 ∧ r = (saidC c b n root, 0) := by
          rcases HR.out with h | h | h
          · exact absurd ⟨hp, hn⟩ h.1
          · exact absurd h.2.2.2.1 (by simp only [Int.toNat_natCast]; rw [HZ.out]; exact hlow)
          · have h4 := h.2.2.2.1
            have h5 := h.2.2.2.2.1
            simp only [Int.toNat_natCast] at h4 h5
            rw [HZ.out] at h4 h5
            exact ⟨h4, h5, h.2.2.2.2.2⟩
        subst hre
        have t3 : ¬ z < 100 := hlow
        have fzb := bp2.fz (34 + b)
        have HBC := Lib.hid (built_claim b n c.now root HRT.out)
        have HFC := Lib.hid (fold_claim (.slice none 0 0, ⟨b, n, c.now, 1, root, []⟩) HRT.out)
        obtain ⟨B', hB'⟩ : ∃ z2, c.bank.set b (z - 100) = z2 := ⟨_, rfl⟩
        have HB8 : Hid (B'.length = 8) := (show _ = _ by rw [← hB', List.length_set]; exact HPR.out.2)
        have bp3 : Blk (w2.setCell ⟨w.heap.size, 34 + b, none⟩ (.int .i64 (z - 100))) w.heap.size 30 (coC (.slice (some ⟨T, 0, none⟩) c.txs.length c.txs.length) (.slice A nC cC) { c with bank := B' }) := co_store bp2 (by rw [coC_len HPR.out.1 HPR.out.2]; omega) (by rw [put_bank HPR.out.1 HPR.out.2 b hb8, hB'])
        have u3 : RBut (some w.heap.size) w2 (w2.setCell ⟨w.heap.size, 34 + b, none⟩ (.int .i64 (z - 100))) := RBut.setC _ _ _ _
        have HBE := Lib.hid hB'
        clear hB'
        go_upto_region 9 with fail
        generalize w2.setCell ⟨w.heap.size, 34 + b, none⟩ (.int .i64 (z - 100)) = w3 at *
        have br3 := br2.but u3 (by intro e; injection e; omega)
        have bz3 := bz2.but u3 (by intro e; injection e; omega)
        have bT3 := bT2.but u3 (by intro e; injection e; omega)
        have ow3 := own_but ow2 u3 (fun k hk => by injection hk; omega)
        have f3 := f2.trans (below_but u3 (Nat.le_refl _) f2.size)
        have k42' : w3.cell? ⟨w.heap.size, 42, none⟩ = some (.slice A nC cC) := by rw [bp3.cell]; exact co_claims HPR.out.1 HB8.out
        have k0' : w3.cell? ⟨w.heap.size, 0, none⟩ = some (.int .i64 c.now) := by rw [bp3.cell]; exact co_now
        clear bp2 br2 bz2 bT2 ow2 f2 k0 k33 k42 kb fzb
        have hsz : (clF (.slice none 0 0, (⟨b, n, c.now, 1, root, []⟩ : CL))).length = 37 := clF_len HRT.out
        go_upto_region 10 with (first
          | (refine wpl_load_fld (by rfl) _ _ rfl (w.heap.size + 1) 0 rfl (B8 root) _ br3.range Try.underlying25 rfl (info_hash HRT.out) ?_)
          | (refine wpl_build (by rfl) _ _ rfl _ (by exact HBC.out) ?_)
          | (at_builtin
             rw [HFC.out]
             refine wpl_push _ _ _ elC rfl rfl rfl ow3 rfl (by rw [List.size_toArray, clF_len HRT.out]) (by intro u hu; exact clF_one rfl u (by simpa using hu)) (by omega) (by omega) (by have := bT3.lt; omega) ?_
             intro A4 c4 w4 g4 h4 gb4
             have bp4 := bp3.below h4 (by omega)
             have k42x : w4.cell? ⟨w.heap.size, 42, none⟩ = some (.slice A nC cC) := by rw [bp4.cell]; exact co_claims HPR.out.1 HB8.out
             have fz4 := bp4.fz 42
             clear k42' k0'))
        have bz4 := bz3.below h4 (by omega)
        have bT4 := bT3.below h4 (by omega)
        have f4 := f3.trans (h4.mono (by omega))
        have o4 : Own w4 (T + 1) 39 37 A4 (nC + 1) c4 (rows clF (l ++ [(.slice none 0 0, ⟨b, n, c.now, 1, root, []⟩)])) := (by have := g4.own; rw [rows_app, rows_one]; exact this)
        have bp5 : Blk (w4.setCell ⟨w.heap.size, 42, none⟩ (.slice A4 (nC + 1) c4)) w.heap.size 30 (coC (.slice (some ⟨T, 0, none⟩) c.txs.length c.txs.length) (.slice A4 (nC + 1) c4) { c with bank := B', claims := c.claims ++ [⟨b, n, c.now, 1, root, []⟩] }) := co_store bp4 (Nat.lt_of_lt_of_eq (by decide : 42 < 43) (coC_len (c := { c with bank := B' }) HPR.out.1 HB8.out).symm) (put_claims (c := { c with bank := B' }) HPR.out.1 HB8.out _)
        have u5 : RBut (some w.heap.size) w4 (w4.setCell ⟨w.heap.size, 42, none⟩ (.slice A4 (nC + 1) c4)) := RBut.setC _ _ _ _
        generalize w4.setCell ⟨w.heap.size, 42, none⟩ (.slice A4 (nC + 1) c4) = w5 at *
        have bz5 := bz4.but u5 (by intro e; injection e; omega)
        have bT5 := bT4.but u5 (by intro e; injection e; omega)
        have o5 := own_but o4 u5 (fun k hk => by injection hk; omega)
        have f5 := f4.trans (below_but u5 (Nat.le_refl _) f4.size)
        have HSU5 : ∀ p ∈ l, SuX [] w5 p.1 p.2.suits := fun p hp => by
          have h2 := HSU2.out p hp
          have h3 : SuO w5 (bnd A) p.1 p.2.suits := by
            cases A with
            | none =>
              have := none_len ow3
              have := HLN.out
              have := List.length_pos_of_mem hp
              omega
            | some a =>
              have h6 := (ow3.lt a.block rfl).1
              have h7 : w.heap.size < bnd (some a) := by simp only [bnd]; omega
              exact ((h2.but u3 h7).but (p := a.block) gb4 (by simp only [bnd]; omega)).but u5 h7
          exact h3.x (fun _ h => by cases h)
        have hX5 : CoX [] w5 (.agg (coC (.slice (some ⟨T, 0, none⟩) c.txs.length c.txs.length) (.slice A4 (nC + 1) c4) { c with bank := B', claims := c.claims ++ [⟨b, n, c.now, 1, root, []⟩] }).toArray) { c with bank := B', claims := c.claims ++ [⟨b, n, c.now, 1, root, []⟩] } :=
          ⟨_, _, rfl, ⟨_, _, _, rfl, bT5.sl HTL.out, rfl, Nat.le_refl _, fun _ _ h => by cases h⟩, A4, nC + 1, c4, l ++ [(.slice none 0 0, ⟨b, n, c.now, 1, root, []⟩)], rfl, o5.sl, by rw [List.map_append, HML.out]; rfl, by rw [List.length_append, HLN.out]; rfl, o5.le.1, fun _ _ h => (by cases h), fun p hp => by
            rcases List.mem_append.1 hp with h | h
            · exact HSU5 p h
            · rw [List.mem_singleton.1 h]
              exact ⟨none, 0, 0, [], rfl, Sl.nil_, rfl, rfl, Nat.le_refl _, fun _ h => (by cases h), fun _ h => by cases h⟩⟩
        have hok : CO.ok { c with bank := B', claims := c.claims ++ [⟨b, n, c.now, 1, root, []⟩] } := ⟨HC.out.pre, HC.out.txs, HC.out.n, HB8.out, fun x hx => by
          rcases List.mem_append.1 hx with h | h
          · exact HC.out.claims x h
          · rw [List.mem_singleton.1 h]
            exact ⟨HRT.out, fun _ h => (by cases h), by simp⟩, by rw [List.length_append]; simp; omega⟩
        have IC5 := Lib.hid (info_co (vt := .slice (some ⟨T, 0, none⟩) c.txs.length c.txs.length) (vc := .slice A4 (nC + 1) c4) (c := { c with bank := B', claims := c.claims ++ [⟨b, n, c.now, 1, root, []⟩] }) HPR.out.1 HB8.out)
        have HX5 := Lib.hid hX5
        have HOK := Lib.hid hok
        clear hX5 hok HSU5 o5 o4 bT5 u5 bT4 bz4 f4 g4 h4 gb4 bp4 fz4 k42x bp3 bz3 bT3 ow3 f3 br3 u3
        go_wp2_with (first
          | (refine wpl_load_fld (by rfl) _ _ rfl w.heap.size 0 rfl (coC (.slice (some ⟨T, 0, none⟩) c.txs.length c.txs.length) (.slice A4 (nC + 1) c4) { c with bank := B', claims := c.claims ++ [⟨b, n, c.now, 1, root, []⟩] }) _ bp5.range Try.underlying30 rfl IC5.out ?_))
        refine (ownC_any _ _ HOK.out w5 HX5.out).mono ?_
        intro e w6 hro
        obtain ⟨vt6, vc6, rfl, o6t, o6c, hb6, hfin⟩ := hro.xt HOK.out
        have hz5 := bz5.lt
        have hf5 := f5.size
        have bz6 := bz5.to hb6
        have f6 := f5.trans (hb6.mono f5.size)
        have IC6 := Lib.hid (info_co (vt := vt6) (vc := vc6) (c := { c with bank := B', claims := c.claims ++ [⟨b, n, c.now, 1, root, []⟩] }) HPR.out.1 HB8.out)
        have HL6 : Hid ((coC vt6 vc6 { c with bank := B', claims := c.claims ++ [⟨b, n, c.now, 1, root, []⟩] }).length = 43) := Lib.hid (coC_len (c := { c with bank := B', claims := c.claims ++ [⟨b, n, c.now, 1, root, []⟩] }) HPR.out.1 HB8.out)
        clear hro bz5 f5 HX5
        go_wp2_with (first
          | (refine wpl_store_fld (by rfl) _ _ _ rfl (w.heap.size + 2) 0 _ _ (coC vt6 vc6 { c with bank := B', claims := c.claims ++ [⟨b, n, c.now, 1, root, []⟩] }) rfl _ rfl rfl bz6 (by rw [HL6.out]; exact Nat.le_refl _) IC6.out (coC_one o6t o6c) ?_
             intro w7 bz7 bu7
             rw [put_all _ _ (by rw [HL6.out]; rfl)] at bz7))
        refine bodyPost_ret (results_blk2 Try.results12 rfl rfl bz7 Try.underlying30 rfl IC6.out) rfl ?_
        refine ⟨_, rfl, ?_, f6.trans (below_but bu7 (by omega) f6.size)⟩
        intro S hS
        show CoX S w7 _ (saidC c b n root)
        rw [show saidC c b n root = { c with bank := B', claims := c.claims ++ [⟨b, n, c.now, 1, root, []⟩] } from by unfold saidC; rw [HZ.out, HBE.out]]
        exact hfin (w.heap.size + 2) w7 hz5 bu7 S (fun b hb => by have := hS b hb; omega)
    · obtain rfl : r = (c, 1) := by
        rcases HR.out with h | h | h
        · exact h.2
        · exact absurd ⟨h.2.1, h.2.2.1⟩ hn
        · exact absurd ⟨h.2.1, h.2.2.1⟩ hn
      by_cases h1 : n < 1
      · go_wp2_with (first
          | (refine wpl_load_fld (by rfl) _ _ rfl w.heap.size 0 rfl (coC (.slice (some ⟨T, 0, none⟩) c.txs.length c.txs.length) (.slice A nC cC) c) _ bp2.range Try.underlying30 rfl IC1.out ?_)
          | (refine wpl_store_fld (by rfl) _ _ _ rfl (w.heap.size + 2) 0 _ _ (coC (.slice (some ⟨T, 0, none⟩) c.txs.length c.txs.length) (.slice A nC cC) c) rfl _ rfl rfl bz2 (by rw [coC_len HPR.out.1 HPR.out.2]; exact Nat.le_refl _) IC1.out (coC_one rfl rfl) ?_
             intro w6 bz6 bu6
             rw [put_all _ _ (by rw [coC_len HPR.out.1 HPR.out.2]; rfl)] at bz6))
        refine bodyPost_ret (results_blk2 Try.results12 rfl rfl bz6 Try.underlying30 rfl IC1.out) rfl ?_
        exact ⟨_, rfl, fun S hS => ((HX2.out ((w.heap.size + 2) :: S) (fun b hb => (List.mem_cons.1 hb).elim (fun h => by omega) (fun h => by have := hS b h; omega))).but bu6 (by simp)).less (fun b hb => List.mem_cons_of_mem _ hb), f2.trans (below_but bu6 (by omega) f2.size)⟩
      · have t2 : (c.txs.length : Int) < n := by omega
        go_wp2_with (first
          | (refine wpl_load_fld (by rfl) _ _ rfl w.heap.size 0 rfl (coC (.slice (some ⟨T, 0, none⟩) c.txs.length c.txs.length) (.slice A nC cC) c) _ bp2.range Try.underlying30 rfl IC1.out ?_)
          | (refine wpl_store_fld (by rfl) _ _ _ rfl (w.heap.size + 2) 0 _ _ (coC (.slice (some ⟨T, 0, none⟩) c.txs.length c.txs.length) (.slice A nC cC) c) rfl _ rfl rfl bz2 (by rw [coC_len HPR.out.1 HPR.out.2]; exact Nat.le_refl _) IC1.out (coC_one rfl rfl) ?_
             intro w6 bz6 bu6
             rw [put_all _ _ (by rw [coC_len HPR.out.1 HPR.out.2]; rfl)] at bz6))
        refine bodyPost_ret (results_blk2 Try.results12 rfl rfl bz6 Try.underlying30 rfl IC1.out) rfl ?_
        exact ⟨_, rfl, fun S hS => ((HX2.out ((w.heap.size + 2) :: S) (fun b hb => (List.mem_cons.1 hb).elim (fun h => by omega) (fun h => by have := hS b h; omega))).but bu6 (by simp)).less (fun b hb => List.mem_cons_of_mem _ hb), f2.trans (below_but bu6 (by omega) f2.size)⟩
  · refine (party_no _ w2 hp).mono ?_
    rintro e w' ⟨rfl, rfl⟩
    obtain rfl : r = (c, 1) := by
      rcases HR.out with h | h | h
      · exact h.2
      · exact absurd h.1 hp
      · exact absurd h.1 hp
    go_wp2_with (first
      | (refine wpl_load_fld (by rfl) _ _ rfl w.heap.size 0 rfl (coC (.slice (some ⟨T, 0, none⟩) c.txs.length c.txs.length) (.slice A nC cC) c) _ bp2.range Try.underlying30 rfl IC1.out ?_)
      | (refine wpl_store_fld (by rfl) _ _ _ rfl (w.heap.size + 2) 0 _ _ (coC (.slice (some ⟨T, 0, none⟩) c.txs.length c.txs.length) (.slice A nC cC) c) rfl _ rfl rfl bz2 (by rw [coC_len HPR.out.1 HPR.out.2]; exact Nat.le_refl _) IC1.out (coC_one rfl rfl) ?_
         intro w6 bz6 bu6
         rw [put_all _ _ (by rw [coC_len HPR.out.1 HPR.out.2]; rfl)] at bz6))
    refine bodyPost_ret (results_blk2 Try.results12 rfl rfl bz6 Try.underlying30 rfl IC1.out) rfl ?_
    exact ⟨_, rfl, fun S hS => ((HX2.out ((w.heap.size + 2) :: S) (fun b hb => (List.mem_cons.1 hb).elim (fun h => by omega) (fun h => by have := hS b h; omega))).but bu6 (by simp)).less (fun b hb => List.mem_cons_of_mem _ hb), f2.trans (below_but bu6 (by omega) f2.size)⟩
end Go.Proofs.Ytdopgooglicaiaa
