/- The texts of this claim, part I: words, plain laws, walks. -/
import Derived.Test.YtdopgooglicaiaaPartG
import Derived.Test.YtdopgooglicaiaaPartH
/- The walk of court.Sue, of a court of one claim. -/
set_option linter.unusedSimpArgs false
set_option linter.unusedVariables false

namespace Go.Proofs.Ytdopgooglicaiaa
open Go.RowKit
set_option maxRecDepth 100000
/-- what a suit makes of a court of one claim -/
def suedX (c : CO) (x : CL) (b : Nat) : CL := { x with suits := x.suits ++ [⟨(b : Int), turnD (startD x.n c.pre x.root c.now), c.txs.take x.n.toNat⟩] }
def suedC (c : CO) (x : CL) (b : Nat) : CO := { c with bank := c.bank.set b (c.bank.getD b 0 - 100), claims := [suedX c x b] }
def sueR (c : CO) (x : CL) (i k : Int) : CO × Int :=
  if ¬ (0 ≤ i ∧ i < 8) then (c, 1) else if k ≠ 0 then (c, 2) else if x.st ≠ 1 ∨ x.at_ + 3 < c.now then (c, 18) else if 0 ≤ findS i x.suits 0 then (c, 7) else if c.bank.getD i.toNat 0 < 100 then (c, 13) else (suedC c x i.toNat, 0)
theorem built_suit (v : Value) (hv : v.cells = #[v]) (b : Int) (d : GD) (hd : GLen d) (hs : List (List UInt8)) : Try.prog.built 44 [(0, .int .i64 b), (1, .agg (gcells v d).toArray)] = some (suF (v, ⟨b, d, hs⟩)).toArray := by
  rw [built_struct (z := .agg (suF (.slice none 0 0, zeroSU)).toArray) (places := [(0, 1), (1, 105)]) (by kernel_rfl) Try.underlying44 (by kernel_rfl)]
  rw [show (Value.agg (suF (.slice none 0 0, zeroSU)).toArray).cells = (suF (.slice none 0 0, zeroSU)).toArray from rfl]
  rw [fill_cons _ _ [.int .i64 b] 0 0 _ _ rfl rfl (by rw [suF_len zeroGD_len]; simp)]
  rw [show put_ (suF (.slice none 0 0, zeroSU)) 0 [.int .i64 b] = suF (.slice none 0 0, { zeroSU with by_ := b }) from rfl]
  rw [fill_cons _ _ (gcells v d) 1 1 _ _ (by rw [gcells_len hd]; rfl) rfl (by rw [suF_len zeroGD_len, gcells_len hd]; decide)]
  rw [put_sg (s := { zeroSU with by_ := b }) zeroGD_len d hd hs]
  rfl
theorem fold_suit (p : Value × SU) (h : GLen p.2.g) (A : Array Value) (hA : A.size = 106) : List.foldl (fun (cs : Array Value) (x : Value × Nat) => cs.setIfInBounds x.2 x.1) A ((suF p).zipIdx) = (suF p).toArray := by
  apply Array.ext'
  rw [fold_fill' (suF p) 0 _ (by rw [hA, suF_len h]; decide)]
  rw [suF_len h]
  have : A.toList.length = 106 := by simpa using hA
  simp [this]
theorem H8_pre {w : World} {T : Nat} {t : TypeId} {hs : List (List UInt8)} (h : Blk w T t (H8 hs)) (hl : ∀ x ∈ hs, x.length = 32) {m : Nat} (hm : m ≤ hs.length) : Sl w 32 (some ⟨T, 0, none⟩) m (H8 (hs.take m)) := by
  have e : H8 hs = H8 (hs.take m) ++ H8 (hs.drop m) := by rw [← H8_app, List.take_append_drop]
  have hlen : (H8 (hs.take m)).length = m * 32 := by rw [H8_len _ (fun x hx => hl x (List.mem_of_mem_take hx)), List.length_take, Nat.min_eq_left hm, Nat.mul_comm]
  refine ⟨hlen, fun _ => ⟨T, 0, rfl, h.lt, fun j u hu => ?_⟩⟩
  rw [Nat.zero_add, h.cell, e, List.getElem?_append_left (List.getElem?_eq_some_iff.1 hu).1]
  exact hu
/-- the last step: a court over blocks known whole, with suits anywhere -/
theorem one_cox {w : World} {T CB cC : Nat} {rest : List Value} {vs : Value} {c : CO} {x : CL} (hok : c.ok) (hcl : c.claims = [x]) (bt : Blk w T 25 (H8 c.txs)) (bc : Blk w CB 39 (clF (vs, x) ++ rest)) (rl : 37 + rest.length = cC * 37) (c1 : 1 ≤ cC) (c2 : cC ≤ maxLen) (sx : SuX [] w vs x.suits) :
    CoX [] w (.agg (coC (.slice (some ⟨T, 0, none⟩) c.txs.length c.txs.length) (.slice (some ⟨CB, 0, none⟩) 1 cC) c).toArray) c := by
  have hl : (H8 c.txs).length = c.txs.length * 32 := by rw [H8_len _ hok.txs, Nat.mul_comm]
  have hxo : x.ok := hok.claims x (by rw [hcl]; simp)
  refine ⟨_, _, rfl, ⟨_, _, _, rfl, bt.sl hl, rfl, Nat.le_refl _, fun _ _ h => (by cases h)⟩, ?_⟩
  rw [hcl]
  have o : Own w 0 39 37 (some ⟨CB, 0, none⟩) 1 cC (rows clF [(vs, x)]) := own_from (n := 1) (by rw [rows_one]; exact bc) (by rw [rows_one, clF_len hxo.root]) (by rw [rows_one, List.length_append, clF_len hxo.root]; exact rl) (Nat.zero_le _) c1 c2
  refine ⟨some ⟨CB, 0, none⟩, 1, cC, [(vs, x)], rfl, o.sl, rfl, rfl, c1, fun _ _ h => (by cases h), fun p hp => ?_⟩
  rw [List.mem_singleton.1 hp]
  exact sx
set_option maxRecDepth 100000 in
set_option maxHeartbeats 4000000 in
theorem sueC_any (v : Value) (c : CO) (hc : c.ok) (x : CL) (hcl : c.claims = [x]) (hn : 1 ≤ x.n ∧ x.n ≤ (c.txs.length : Int) ∧ c.txs.length ≤ 2048) (hnow : 0 ≤ c.now ∧ c.now ≤ 1000) (hat : 0 ≤ x.at_ ∧ x.at_ ≤ 1000)
    (hbk : ∀ b, b < 8 → 0 ≤ c.bank.getD b 0 ∧ c.bank.getD b 0 ≤ 1000000) (hsl : x.suits.length < 4096) (i k : Int) (w : World) (h : CoX [] w v c) : Calls Try.prog 13 #[v, .int .i64 i, .int .i64 k] w (RCe w (sueR c x i k).1 (sueR c x i k).2) := by
  obtain ⟨vt, vc, rfl, hx⟩ := h
  have hX : CoX [] w (.agg (coC vt vc c).toArray) c := ⟨vt, vc, rfl, hx⟩
  obtain ⟨W, HW, hbw, bp, bz⟩ := box_co w vt vc c
  have HC := Lib.hid hc
  have ICO := Lib.hid (info_co (vt := vt) (vc := vc) hc.pre hc.bank)
  have HXO : Hid x.ok := Lib.hid (hc.claims x (by rw [hcl]; simp))
  have HCL := Lib.hid hcl
  obtain ⟨r, hr⟩ : ∃ r, sueR c x i k = r := ⟨_, rfl⟩
  rw [hr]
  have HR := Lib.hid hr
  have HBK := Lib.hid hbk
  have hWz := bz.lt
  have hXW := hX.to hbw
  clear hc hx hX hcl hr hbk
  go_enter Try.func13, Try.ntmps13
  go_upto_region 1 with fail
  refine wp_at HW.out ?_
  clear HW
  go_wp2_with (first
    | (refine wpl_load_fld (by rfl) _ _ rfl w.heap.size 0 rfl (coC vt vc c) _ bp.range Try.underlying30 rfl ICO.out ?_))
  refine (ownC_any _ c HC.out W hXW).mono ?_
  intro e w1 hro
  obtain ⟨T, CB, cC, rest, vs, rfl, hT, hb1, hone⟩ := hro.one HC.out HCL.out
  have HONE := Lib.hid hone
  have bp1 := bp.to hb1
  have bz1 := bz.to hb1
  have f1 := hbw.trans (hb1.mono hbw.size)
  have IC1 := Lib.hid (info_co (vt := .slice (some ⟨T, 0, none⟩) c.txs.length c.txs.length) (vc := .slice (some ⟨CB, 0, none⟩) 1 cC) HC.out.pre HC.out.bank)
  clear bp bz hb1 hbw hXW ICO hone hro
  go_upto_region 2 with (first
    | (refine wpl_store_fld (by rfl) _ _ _ rfl w.heap.size 0 _ _ (coC (.slice (some ⟨T, 0, none⟩) c.txs.length c.txs.length) (.slice (some ⟨CB, 0, none⟩) 1 cC) c) rfl _ rfl rfl bp1 (by rw [coC_len HC.out.pre HC.out.bank, coC_len HC.out.pre HC.out.bank]; exact Nat.le_refl _) IC1.out (coC_one rfl rfl) ?_
       intro w2 bp2 bu2
       rw [put_all _ _ (by rw [coC_len HC.out.pre HC.out.bank, coC_len HC.out.pre HC.out.bank])] at bp2))
  have HO := Lib.hid (HONE.out w.heap.size w2 (by omega) bu2 bp2)
  have bz := bz1.but bu2 (by intro e; injection e; omega)
  have ff := f1.trans (below_but bu2 (Nat.le_refl _) f1.size)
  clear bu2 bz1 f1 bp1 bp2 HONE IC1
  go_wp2_with fail
  by_cases hp : partyB i
  · obtain ⟨b, rfl⟩ : ∃ b : Nat, i = (b : Int) := ⟨i.toNat, by have := hp.1; omega⟩
    have hb8 : b < 8 := by have := hp.2; omega
    have hb := HBK.out b hb8
    obtain ⟨z, hz⟩ : ∃ z, c.bank.getD b 0 = z := ⟨_, rfl⟩
    rw [hz] at hb
    have kb : w2.cell? ⟨w.heap.size, 34 + b, none⟩ = some (.int .i64 z) := by rw [← hz]; exact HO.out.kb b hb8
    have HZ := Lib.hid hz
    have HP := Lib.hid hp
    have hp0 : 0 ≤ (b : Int) ∧ (b : Int) < 8 := hp
    clear hz
    refine (party_yes _ w2 hp).mono ?_
    rintro e w' ⟨rfl, rfl⟩
    clear hp
    have k42 := HO.out.k42
    by_cases hk : k = 0
    · subst hk
      by_cases hst : x.st = 1
      · have k3 : w2.cell? ⟨CB, 3, none⟩ = some (.int .i64 1) := by rw [← hst]; exact HO.out.cst
        have wd : IntKind.i64.wrap (x.at_ + 3) = x.at_ + 3 := IntWalk.i64_in _ (by omega)
        by_cases hlt : x.at_ + 3 < c.now
        · obtain rfl : r = (c, 18) := by rw [← HR.out]; unfold sueR; rw [if_neg (by simpa using hp0), if_neg (by simp), if_pos (.inr hlt)]
          go_wp2_with fail
          refine wp_region_P (.take 0 (.take 1 (.take 2 (.take 3 (.take 4 (.take 5 (.take 6 (.take 7 (.take 8 (.take 9 (.take 10 (.take 11 (.take 12 (.take 13 (.take 14 (.take 15 .done)))))))))))))))) ((fun a b => a = b)) (by kernel_rfl) (by kernel_rfl) (by kernel_rfl) (by decide +kernel) (fun _ => rfl) (fun _ _ _ h k => h.trans k) (by intro d v c a w h; first | (cases d <;> exact h) | exact absurd h.1 (by simp)) ?_
          have d3 : w2.drew.cell? ⟨CB, 3, none⟩ = some (.int .i64 1) := k3
          have d2 : w2.drew.cell? ⟨CB, 2, none⟩ = some (.int .i64 x.at_) := HO.out.cat
          have d0 : w2.drew.cell? ⟨w.heap.size, 0, none⟩ = some (.int .i64 c.now) := HO.out.k0
          have bzd : Blk w2.drew (w.heap.size + 1) 30 zeroCC := bz
          have HOD := Lib.hid HO.out.drew
          have ffd := ff.drew
          clear k3 kb k42 HO bz ff
          generalize w2.drew = V0 at *
          have HO := HOD
          have bz := bzd
          have ff := ffd
          clear HOD bzd ffd
          first | (refine wpP_quiet (v := ?_) rfl (by rfl) ?_ ?_; rotate_left; (· (intro w' hw'; subst hw'; go_simp; try with_reducible rfl)); simp only [Act.put, List.setIfInBounds_toArray, List.set_cons_zero, List.set_cons_succ]) | (refine wpP_skip rfl (by rfl) ?_; simp only [Act.put, List.setIfInBounds_toArray, List.set_cons_zero, List.set_cons_succ])
          first | (refine wpP_quiet (v := ?_) rfl (by rfl) ?_ ?_; rotate_left; (· (intro w' hw'; subst hw'; go_simp; try with_reducible rfl)); simp only [Act.put, List.setIfInBounds_toArray, List.set_cons_zero, List.set_cons_succ]) | (refine wpP_skip rfl (by rfl) ?_; simp only [Act.put, List.setIfInBounds_toArray, List.set_cons_zero, List.set_cons_succ])
          first | (refine wpP_quiet (v := ?_) rfl (by rfl) ?_ ?_; rotate_left; (· (intro w' hw'; subst hw'; go_simp; try with_reducible rfl)); simp only [Act.put, List.setIfInBounds_toArray, List.set_cons_zero, List.set_cons_succ]) | (refine wpP_skip rfl (by rfl) ?_; simp only [Act.put, List.setIfInBounds_toArray, List.set_cons_zero, List.set_cons_succ])
          first | (refine wpP_quiet (v := ?_) rfl (by rfl) ?_ ?_; rotate_left; (· (intro w' hw'; subst hw'; go_simp; try with_reducible rfl)); simp only [Act.put, List.setIfInBounds_toArray, List.set_cons_zero, List.set_cons_succ]) | (refine wpP_skip rfl (by rfl) ?_; simp only [Act.put, List.setIfInBounds_toArray, List.set_cons_zero, List.set_cons_succ])
          first | (refine wpP_quiet (v := ?_) rfl (by rfl) ?_ ?_; rotate_left; (· (intro w' hw'; subst hw'; go_simp; try with_reducible rfl)); simp only [Act.put, List.setIfInBounds_toArray, List.set_cons_zero, List.set_cons_succ]) | (refine wpP_skip rfl (by rfl) ?_; simp only [Act.put, List.setIfInBounds_toArray, List.set_cons_zero, List.set_cons_succ])
          first | (refine wpP_quiet (v := ?_) rfl (by rfl) ?_ ?_; rotate_left; (· (intro w' hw'; subst hw'; go_simp; try with_reducible rfl)); simp only [Act.put, List.setIfInBounds_toArray, List.set_cons_zero, List.set_cons_succ]) | (refine wpP_skip rfl (by rfl) ?_; simp only [Act.put, List.setIfInBounds_toArray, List.set_cons_zero, List.set_cons_succ])
          first | (refine wpP_quiet (v := ?_) rfl (by rfl) ?_ ?_; rotate_left; (· (intro w' hw'; subst hw'; go_simp; try with_reducible rfl)); simp only [Act.put, List.setIfInBounds_toArray, List.set_cons_zero, List.set_cons_succ]) | (refine wpP_skip rfl (by rfl) ?_; simp only [Act.put, List.setIfInBounds_toArray, List.set_cons_zero, List.set_cons_succ])
          first | (refine wpP_quiet (v := ?_) rfl (by rfl) ?_ ?_; rotate_left; (· (intro w' hw'; subst hw'; go_simp; try with_reducible rfl)); simp only [Act.put, List.setIfInBounds_toArray, List.set_cons_zero, List.set_cons_succ]) | (refine wpP_skip rfl (by rfl) ?_; simp only [Act.put, List.setIfInBounds_toArray, List.set_cons_zero, List.set_cons_succ])
          first | (refine wpP_quiet (v := ?_) rfl (by rfl) ?_ ?_; rotate_left; (· (intro w' hw'; subst hw'; go_simp; try with_reducible rfl)); simp only [Act.put, List.setIfInBounds_toArray, List.set_cons_zero, List.set_cons_succ]) | (refine wpP_skip rfl (by rfl) ?_; simp only [Act.put, List.setIfInBounds_toArray, List.set_cons_zero, List.set_cons_succ])
          first | (refine wpP_quiet (v := ?_) rfl (by rfl) ?_ ?_; rotate_left; (· (intro w' hw'; subst hw'; go_simp; try with_reducible rfl)); simp only [Act.put, List.setIfInBounds_toArray, List.set_cons_zero, List.set_cons_succ]) | (refine wpP_skip rfl (by rfl) ?_; simp only [Act.put, List.setIfInBounds_toArray, List.set_cons_zero, List.set_cons_succ])
          first | (refine wpP_quiet (v := ?_) rfl (by rfl) ?_ ?_; rotate_left; (· (intro w' hw'; subst hw'; go_simp; try with_reducible rfl)); simp only [Act.put, List.setIfInBounds_toArray, List.set_cons_zero, List.set_cons_succ]) | (refine wpP_skip rfl (by rfl) ?_; simp only [Act.put, List.setIfInBounds_toArray, List.set_cons_zero, List.set_cons_succ])
          first | (refine wpP_quiet (v := ?_) rfl (by rfl) ?_ ?_; rotate_left; (· (intro w' hw'; subst hw'; go_simp; try with_reducible rfl)); simp only [Act.put, List.setIfInBounds_toArray, List.set_cons_zero, List.set_cons_succ]) | (refine wpP_skip rfl (by rfl) ?_; simp only [Act.put, List.setIfInBounds_toArray, List.set_cons_zero, List.set_cons_succ])
          first | (refine wpP_quiet (v := ?_) rfl (by rfl) ?_ ?_; rotate_left; (· (intro w' hw'; subst hw'; go_simp; try with_reducible rfl)); simp only [Act.put, List.setIfInBounds_toArray, List.set_cons_zero, List.set_cons_succ]) | (refine wpP_skip rfl (by rfl) ?_; simp only [Act.put, List.setIfInBounds_toArray, List.set_cons_zero, List.set_cons_succ])
          first | (refine wpP_quiet (v := ?_) rfl (by rfl) ?_ ?_; rotate_left; (· (intro w' hw'; subst hw'; go_simp; try with_reducible rfl)); simp only [Act.put, List.setIfInBounds_toArray, List.set_cons_zero, List.set_cons_succ]) | (refine wpP_skip rfl (by rfl) ?_; simp only [Act.put, List.setIfInBounds_toArray, List.set_cons_zero, List.set_cons_succ])
          first | (refine wpP_quiet (v := ?_) rfl (by rfl) ?_ ?_; rotate_left; (· (intro w' hw'; subst hw'; go_simp; try with_reducible rfl)); simp only [Act.put, List.setIfInBounds_toArray, List.set_cons_zero, List.set_cons_succ]) | (refine wpP_skip rfl (by rfl) ?_; simp only [Act.put, List.setIfInBounds_toArray, List.set_cons_zero, List.set_cons_succ])
          first | (refine wpP_quiet (v := ?_) rfl (by rfl) ?_ ?_; rotate_left; (· (intro w' hw'; subst hw'; go_simp; try with_reducible rfl)); simp only [Act.put, List.setIfInBounds_toArray, List.set_cons_zero, List.set_cons_succ]) | (refine wpP_skip rfl (by rfl) ?_; simp only [Act.put, List.setIfInBounds_toArray, List.set_cons_zero, List.set_cons_succ])
          refine wpP_done ?_
          go_wp2_with (first
            | (refine wpl_load_fld (by rfl) _ _ rfl w.heap.size 0 rfl (coC (.slice (some ⟨T, 0, none⟩) c.txs.length c.txs.length) (.slice (some ⟨CB, 0, none⟩) 1 cC) c) _ HO.out.bp.range Try.underlying30 rfl HO.out.info ?_)
            | (refine wpl_store_fld (by rfl) _ _ _ rfl (w.heap.size + 1) 0 _ _ (coC (.slice (some ⟨T, 0, none⟩) c.txs.length c.txs.length) (.slice (some ⟨CB, 0, none⟩) 1 cC) c) rfl _ rfl rfl bz (by rw [HO.out.clen]; exact Nat.le_refl _) HO.out.info (coC_one rfl rfl) ?_
               intro w6 bz6 bu6
               rw [put_all _ _ (by rw [HO.out.clen]; rfl)] at bz6))
          refine bodyPost_ret (results_blk2 Try.results13 rfl rfl bz6 Try.underlying30 rfl HO.out.info) rfl ?_
          exact ⟨_, rfl, fun S hS => ((HO.out.cox (S := (w.heap.size + 1) :: S) (fun b hb => (List.mem_cons.1 hb).elim (fun h => by omega) (fun h => by have := hS b h; omega))).but bu6 (by simp)).less (fun b hb => List.mem_cons_of_mem _ hb), ff.trans (below_but bu6 (by omega) ff.size)⟩
        · go_wp2_with fail
          refine wp_region_P (.take 0 (.take 1 (.take 2 (.take 3 (.take 4 (.take 5 (.take 6 (.take 7 (.take 8 (.take 9 (.take 10 (.take 11 (.take 12 (.take 13 (.take 14 (.take 15 .done)))))))))))))))) ((fun a b => a = b)) (by kernel_rfl) (by kernel_rfl) (by kernel_rfl) (by decide +kernel) (fun _ => rfl) (fun _ _ _ h k => h.trans k) (by intro d v c a w h; first | (cases d <;> exact h) | exact absurd h.1 (by simp)) ?_
          have d3 : w2.drew.cell? ⟨CB, 3, none⟩ = some (.int .i64 1) := k3
          have d2 : w2.drew.cell? ⟨CB, 2, none⟩ = some (.int .i64 x.at_) := HO.out.cat
          have d0 : w2.drew.cell? ⟨w.heap.size, 0, none⟩ = some (.int .i64 c.now) := HO.out.k0
          have bzd : Blk w2.drew (w.heap.size + 1) 30 zeroCC := bz
          have HOD := Lib.hid HO.out.drew
          have ffd := ff.drew
          clear k3 kb k42 HO bz ff
          generalize w2.drew = V0 at *
          have HO := HOD
          have bz := bzd
          have ff := ffd
          clear HOD bzd ffd
          first | (refine wpP_quiet (v := ?_) rfl (by rfl) ?_ ?_; rotate_left; (· (intro w' hw'; subst hw'; go_simp; try with_reducible rfl)); simp only [Act.put, List.setIfInBounds_toArray, List.set_cons_zero, List.set_cons_succ]) | (refine wpP_skip rfl (by rfl) ?_; simp only [Act.put, List.setIfInBounds_toArray, List.set_cons_zero, List.set_cons_succ])
          first | (refine wpP_quiet (v := ?_) rfl (by rfl) ?_ ?_; rotate_left; (· (intro w' hw'; subst hw'; go_simp; try with_reducible rfl)); simp only [Act.put, List.setIfInBounds_toArray, List.set_cons_zero, List.set_cons_succ]) | (refine wpP_skip rfl (by rfl) ?_; simp only [Act.put, List.setIfInBounds_toArray, List.set_cons_zero, List.set_cons_succ])
          first | (refine wpP_quiet (v := ?_) rfl (by rfl) ?_ ?_; rotate_left; (· (intro w' hw'; subst hw'; go_simp; try with_reducible rfl)); simp only [Act.put, List.setIfInBounds_toArray, List.set_cons_zero, List.set_cons_succ]) | (refine wpP_skip rfl (by rfl) ?_; simp only [Act.put, List.setIfInBounds_toArray, List.set_cons_zero, List.set_cons_succ])
          first | (refine wpP_quiet (v := ?_) rfl (by rfl) ?_ ?_; rotate_left; (· (intro w' hw'; subst hw'; go_simp; try with_reducible rfl)); simp only [Act.put, List.setIfInBounds_toArray, List.set_cons_zero, List.set_cons_succ]) | (refine wpP_skip rfl (by rfl) ?_; simp only [Act.put, List.setIfInBounds_toArray, List.set_cons_zero, List.set_cons_succ])
          first | (refine wpP_quiet (v := ?_) rfl (by rfl) ?_ ?_; rotate_left; (· (intro w' hw'; subst hw'; go_simp; try with_reducible rfl)); simp only [Act.put, List.setIfInBounds_toArray, List.set_cons_zero, List.set_cons_succ]) | (refine wpP_skip rfl (by rfl) ?_; simp only [Act.put, List.setIfInBounds_toArray, List.set_cons_zero, List.set_cons_succ])
          first | (refine wpP_quiet (v := ?_) rfl (by rfl) ?_ ?_; rotate_left; (· (intro w' hw'; subst hw'; go_simp; try with_reducible rfl)); simp only [Act.put, List.setIfInBounds_toArray, List.set_cons_zero, List.set_cons_succ]) | (refine wpP_skip rfl (by rfl) ?_; simp only [Act.put, List.setIfInBounds_toArray, List.set_cons_zero, List.set_cons_succ])
          first | (refine wpP_quiet (v := ?_) rfl (by rfl) ?_ ?_; rotate_left; (· (intro w' hw'; subst hw'; go_simp; try with_reducible rfl)); simp only [Act.put, List.setIfInBounds_toArray, List.set_cons_zero, List.set_cons_succ]) | (refine wpP_skip rfl (by rfl) ?_; simp only [Act.put, List.setIfInBounds_toArray, List.set_cons_zero, List.set_cons_succ])
          first | (refine wpP_quiet (v := ?_) rfl (by rfl) ?_ ?_; rotate_left; (· (intro w' hw'; subst hw'; go_simp; try with_reducible rfl)); simp only [Act.put, List.setIfInBounds_toArray, List.set_cons_zero, List.set_cons_succ]) | (refine wpP_skip rfl (by rfl) ?_; simp only [Act.put, List.setIfInBounds_toArray, List.set_cons_zero, List.set_cons_succ])
          first | (refine wpP_quiet (v := ?_) rfl (by rfl) ?_ ?_; rotate_left; (· (intro w' hw'; subst hw'; go_simp; try with_reducible rfl)); simp only [Act.put, List.setIfInBounds_toArray, List.set_cons_zero, List.set_cons_succ]) | (refine wpP_skip rfl (by rfl) ?_; simp only [Act.put, List.setIfInBounds_toArray, List.set_cons_zero, List.set_cons_succ])
          first | (refine wpP_quiet (v := ?_) rfl (by rfl) ?_ ?_; rotate_left; (· (intro w' hw'; subst hw'; go_simp; try with_reducible rfl)); simp only [Act.put, List.setIfInBounds_toArray, List.set_cons_zero, List.set_cons_succ]) | (refine wpP_skip rfl (by rfl) ?_; simp only [Act.put, List.setIfInBounds_toArray, List.set_cons_zero, List.set_cons_succ])
          first | (refine wpP_quiet (v := ?_) rfl (by rfl) ?_ ?_; rotate_left; (· (intro w' hw'; subst hw'; go_simp; try with_reducible rfl)); simp only [Act.put, List.setIfInBounds_toArray, List.set_cons_zero, List.set_cons_succ]) | (refine wpP_skip rfl (by rfl) ?_; simp only [Act.put, List.setIfInBounds_toArray, List.set_cons_zero, List.set_cons_succ])
          first | (refine wpP_quiet (v := ?_) rfl (by rfl) ?_ ?_; rotate_left; (· (intro w' hw'; subst hw'; go_simp; try with_reducible rfl)); simp only [Act.put, List.setIfInBounds_toArray, List.set_cons_zero, List.set_cons_succ]) | (refine wpP_skip rfl (by rfl) ?_; simp only [Act.put, List.setIfInBounds_toArray, List.set_cons_zero, List.set_cons_succ])
          first | (refine wpP_quiet (v := ?_) rfl (by rfl) ?_ ?_; rotate_left; (· (intro w' hw'; subst hw'; go_simp; try with_reducible rfl)); simp only [Act.put, List.setIfInBounds_toArray, List.set_cons_zero, List.set_cons_succ]) | (refine wpP_skip rfl (by rfl) ?_; simp only [Act.put, List.setIfInBounds_toArray, List.set_cons_zero, List.set_cons_succ])
          first | (refine wpP_quiet (v := ?_) rfl (by rfl) ?_ ?_; rotate_left; (· (intro w' hw'; subst hw'; go_simp; try with_reducible rfl)); simp only [Act.put, List.setIfInBounds_toArray, List.set_cons_zero, List.set_cons_succ]) | (refine wpP_skip rfl (by rfl) ?_; simp only [Act.put, List.setIfInBounds_toArray, List.set_cons_zero, List.set_cons_succ])
          first | (refine wpP_quiet (v := ?_) rfl (by rfl) ?_ ?_; rotate_left; (· (intro w' hw'; subst hw'; go_simp; try with_reducible rfl)); simp only [Act.put, List.setIfInBounds_toArray, List.set_cons_zero, List.set_cons_succ]) | (refine wpP_skip rfl (by rfl) ?_; simp only [Act.put, List.setIfInBounds_toArray, List.set_cons_zero, List.set_cons_succ])
          first | (refine wpP_quiet (v := ?_) rfl (by rfl) ?_ ?_; rotate_left; (· (intro w' hw'; subst hw'; go_simp; try with_reducible rfl)); simp only [Act.put, List.setIfInBounds_toArray, List.set_cons_zero, List.set_cons_succ]) | (refine wpP_skip rfl (by rfl) ?_; simp only [Act.put, List.setIfInBounds_toArray, List.set_cons_zero, List.set_cons_succ])
          refine wpP_done ?_
          have kb : V0.cell? ⟨w.heap.size, 34 + b, none⟩ = some (.int .i64 z) := by rw [← HZ.out]; exact HO.out.kb b hb8
          clear d3 d2 d0
          go_wp2_with (first
            | (refine wpl_load_fld (by rfl) _ _ rfl w.heap.size 0 rfl (coC (.slice (some ⟨T, 0, none⟩) c.txs.length c.txs.length) (.slice (some ⟨CB, 0, none⟩) 1 cC) c) _ HO.out.bp.range Try.underlying30 rfl HO.out.info ?_))
          refine (findC_any _ c HC.out _ _ V0 (HO.out.cox (S := []) (fun _ h => by cases h))).mono ?_
          rintro e w3 ⟨rfl, hb3⟩
          have HO3 := Lib.hid (HO.out.to hb3)
          have bz3 := bz.to hb3
          have f3 := ff.trans (hb3.mono ff.size)
          have hFF : findC c (b : Int) 0 = findS (b : Int) x.suits 0 := by unfold findC; rw [HCL.out]; rfl
          rw [hFF]
          clear hFF HO bz ff kb hb3
          have HO := HO3
          have bz := bz3
          have ff := f3
          clear HO3 bz3 f3
          have kb : w3.cell? ⟨w.heap.size, 34 + b, none⟩ = some (.int .i64 z) := by rw [← HZ.out]; exact HO.out.kb b hb8
          obtain ⟨f, hf⟩ : ∃ f, findS (b : Int) x.suits 0 = f := ⟨_, rfl⟩
          rw [hf]
          have HF := Lib.hid hf
          clear hf
          by_cases hf0 : 0 ≤ f
          · obtain rfl : r = (c, 7) := by rw [← HR.out]; unfold sueR; rw [if_neg (by simpa using hp0), if_neg (by simp), if_neg (by omega), if_pos (by rw [HF.out]; exact hf0)]
            go_wp2_with (first
              | (refine wpl_load_fld (by rfl) _ _ rfl w.heap.size 0 rfl (coC (.slice (some ⟨T, 0, none⟩) c.txs.length c.txs.length) (.slice (some ⟨CB, 0, none⟩) 1 cC) c) _ HO.out.bp.range Try.underlying30 rfl HO.out.info ?_)
              | (refine wpl_store_fld (by rfl) _ _ _ rfl (w.heap.size + 1) 0 _ _ (coC (.slice (some ⟨T, 0, none⟩) c.txs.length c.txs.length) (.slice (some ⟨CB, 0, none⟩) 1 cC) c) rfl _ rfl rfl bz (by rw [HO.out.clen]; exact Nat.le_refl _) HO.out.info (coC_one rfl rfl) ?_
                 intro w6 bz6 bu6
                 rw [put_all _ _ (by rw [HO.out.clen]; rfl)] at bz6))
            refine bodyPost_ret (results_blk2 Try.results13 rfl rfl bz6 Try.underlying30 rfl HO.out.info) rfl ?_
            exact ⟨_, rfl, fun S hS => ((HO.out.cox (S := (w.heap.size + 1) :: S) (fun b hb => (List.mem_cons.1 hb).elim (fun h => by omega) (fun h => by have := hS b h; omega))).but bu6 (by simp)).less (fun b hb => List.mem_cons_of_mem _ hb), ff.trans (below_but bu6 (by omega) ff.size)⟩
          · by_cases hlow : z < 100
            · obtain rfl : r = (c, 13) := by rw [← HR.out]; unfold sueR; rw [if_neg (by simpa using hp0), if_neg (by simp), if_neg (by omega), if_neg (by rw [HF.out]; exact hf0), if_pos (by rw [Int.toNat_natCast, HZ.out]; exact hlow)]
              go_wp2_with (first
                | (refine wpl_load_fld (by rfl) _ _ rfl w.heap.size 0 rfl (coC (.slice (some ⟨T, 0, none⟩) c.txs.length c.txs.length) (.slice (some ⟨CB, 0, none⟩) 1 cC) c) _ HO.out.bp.range Try.underlying30 rfl HO.out.info ?_)
                | (refine wpl_store_fld (by rfl) _ _ _ rfl (w.heap.size + 1) 0 _ _ (coC (.slice (some ⟨T, 0, none⟩) c.txs.length c.txs.length) (.slice (some ⟨CB, 0, none⟩) 1 cC) c) rfl _ rfl rfl bz (by rw [HO.out.clen]; exact Nat.le_refl _) HO.out.info (coC_one rfl rfl) ?_
                   intro w6 bz6 bu6
                   rw [put_all _ _ (by rw [HO.out.clen]; rfl)] at bz6))
              refine bodyPost_ret (results_blk2 Try.results13 rfl rfl bz6 Try.underlying30 rfl HO.out.info) rfl ?_
              exact ⟨_, rfl, fun S hS => ((HO.out.cox (S := (w.heap.size + 1) :: S) (fun b hb => (List.mem_cons.1 hb).elim (fun h => by omega) (fun h => by have := hS b h; omega))).but bu6 (by simp)).less (fun b hb => List.mem_cons_of_mem _ hb), ff.trans (below_but bu6 (by omega) ff.size)⟩
            · obtain rfl : r = (suedC c x b, 0) := by rw [← HR.out]; unfold sueR; rw [if_neg (by simpa using hp0), if_neg (by simp), if_neg (by omega), if_neg (by rw [HF.out]; exact hf0), if_neg (by rw [Int.toNat_natCast, HZ.out]; exact hlow)]; rfl
              have t3 : ¬ z < 100 := hlow
              obtain ⟨m, hm⟩ : ∃ m : Nat, x.n = (m : Int) := ⟨x.n.toNat, by omega⟩
              rw [hm] at hn
              have HM := Lib.hid hm
              have HCK := Lib.hid (show clockB c.now from ⟨by omega, by omega⟩)
              have HGL : Hid (GLen (turnD (startD (m : Int) c.pre x.root c.now))) := Lib.hid ⟨HC.out.pre, HXO.out.root, rfl⟩
              clear hm
              obtain ⟨As, ns, cs, l, rfl, ows, hml, hln, hh⟩ := HO.out.su
              have hAl : ∀ k, As.map (·.block) = some k → CB + 1 ≤ k ∧ k < w3.drew.heap.size := ows.lt
              have hns : ns < 4096 := by rw [← hln, ← List.length_map (f := (·.2)), hml]; exact hsl
              clear ows hml hln hh hsl l
              go_wp2_with fail
              refine wp_region_P (.take 0 (.take 1 (.take 2 (.take 3 (.take 4 (.take 5 (.take 6 (.take 7 (.take 8 (.take 9 (.take 10 (.take 11 (.take 12 (.take 13 (.take 14 (.take 15 (.take 16 (.take 17 (.take 18 (.two 19 (.take 20 (.take 21 (.take 22 (.one 23 (.one 24 (.take 25 .done)))))) 23 (.one 19 (.take 20 (.take 21 (.take 22 (.one 24 (.take 25 .done)))))))))))))))))))))))))) (Below w3.heap.size) (by kernel_rfl) (by kernel_rfl) (by kernel_rfl) (by decide +kernel) (Below.refl _) (fun _ _ _ => Below.trans) (by intro d v c a w h; first | (cases d <;> exact h) | exact absurd h.1 (by simp)) ?_
              have HOD := Lib.hid HO.out.drew
              have bzd : Blk w3.drew (w.heap.size + 1) 30 zeroCC := bz
              have ffd := ff.drew
              clear HO bz ff kb
              have hsz : w3.heap.size = w3.drew.heap.size := rfl
              rw [hsz]
              clear hsz
              generalize w3.drew = U0 at *
              have HO := HOD
              have bz := bzd
              have ff := ffd
              clear HOD bzd ffd
              have k33 := HO.out.k33
              have k1 : U0.cell? ⟨CB, 1, none⟩ = some (.int .i64 (m : Int)) := by rw [← HM.out]; exact HO.out.cn
              have k0 := HO.out.k0
              have hmn : ¬ c.txs.length < m := by omega
              have rP := HO.out.rpre
              have rR := HO.out.croot
              have hlP := HO.out.bp.lt
              have HAL := Lib.hid hAl
              clear hAl
              have hlC := HO.out.bc.lt
              have SLT : Sl U0 32 (some ⟨T, 0, none⟩) m (H8 (c.txs.take m)) := H8_pre HO.out.bt HC.out.txs (by omega)
              first | (refine wpP_quiet (v := ?_) rfl (by rfl) ?_ ?_; rotate_left; (· (intro w' hw'; go_simp; try with_reducible rfl)); simp only [Act.put, List.setIfInBounds_toArray, List.set_cons_zero, List.set_cons_succ]) | (refine wpP_skip rfl (by rfl) ?_; simp only [Act.put, List.setIfInBounds_toArray, List.set_cons_zero, List.set_cons_succ])
              refine wpP_quiet (v := ?_) rfl (by rfl) ?_ ?_; rotate_left; (· (intro w' hw'; have q0 := (hw'.cell (p := ⟨w.heap.size, 33, none⟩) hlP).trans k33; go_simp; try with_reducible rfl)); simp only [Act.put, List.setIfInBounds_toArray, List.set_cons_zero, List.set_cons_succ]
              first | (refine wpP_quiet (v := ?_) rfl (by rfl) ?_ ?_; rotate_left; (· (intro w' hw'; go_simp; try with_reducible rfl)); simp only [Act.put, List.setIfInBounds_toArray, List.set_cons_zero, List.set_cons_succ]) | (refine wpP_skip rfl (by rfl) ?_; simp only [Act.put, List.setIfInBounds_toArray, List.set_cons_zero, List.set_cons_succ])
              first | (refine wpP_quiet (v := ?_) rfl (by rfl) ?_ ?_; rotate_left; (· (intro w' hw'; go_simp; try with_reducible rfl)); simp only [Act.put, List.setIfInBounds_toArray, List.set_cons_zero, List.set_cons_succ]) | (refine wpP_skip rfl (by rfl) ?_; simp only [Act.put, List.setIfInBounds_toArray, List.set_cons_zero, List.set_cons_succ])
              first | (refine wpP_quiet (v := ?_) rfl (by rfl) ?_ ?_; rotate_left; (· (intro w' hw'; go_simp; try with_reducible rfl)); simp only [Act.put, List.setIfInBounds_toArray, List.set_cons_zero, List.set_cons_succ]) | (refine wpP_skip rfl (by rfl) ?_; simp only [Act.put, List.setIfInBounds_toArray, List.set_cons_zero, List.set_cons_succ])
              refine wpP_quiet (v := ?_) rfl (by rfl) ?_ ?_; rotate_left; (· (intro w' hw'; have q0 := (hw'.cell (p := ⟨CB, 1, none⟩) hlC).trans k1; go_simp; try with_reducible rfl)); simp only [Act.put, List.setIfInBounds_toArray, List.set_cons_zero, List.set_cons_succ]
              first | (refine wpP_quiet (v := ?_) rfl (by rfl) ?_ ?_; rotate_left; (· (intro w' hw'; go_simp; try with_reducible rfl)); simp only [Act.put, List.setIfInBounds_toArray, List.set_cons_zero, List.set_cons_succ]) | (refine wpP_skip rfl (by rfl) ?_; simp only [Act.put, List.setIfInBounds_toArray, List.set_cons_zero, List.set_cons_succ])
              refine wpP_quiet (v := ?_) rfl (by rfl) ?_ ?_; rotate_left; (· (intro w' hw'; have q0 := (hw'.cell (p := ⟨w.heap.size, 33, none⟩) hlP).trans k33; go_simp; try with_reducible rfl)); simp only [Act.put, List.setIfInBounds_toArray, List.set_cons_zero, List.set_cons_succ]
              first | (refine wpP_quiet (v := ?_) rfl (by rfl) ?_ ?_; rotate_left; (· (intro w' hw'; go_simp; try with_reducible rfl)); simp only [Act.put, List.setIfInBounds_toArray, List.set_cons_zero, List.set_cons_succ]) | (refine wpP_skip rfl (by rfl) ?_; simp only [Act.put, List.setIfInBounds_toArray, List.set_cons_zero, List.set_cons_succ])
              refine wpP_quiet (v := ?_) rfl (by rfl) ?_ ?_; rotate_left; (· (intro w' hw'; have q0 := (if_neg hmn : (if c.txs.length < m then (c.txs.length : Int) else (m : Int)) = (m : Int)); go_simp; try with_reducible rfl)); simp only [Act.put, List.setIfInBounds_toArray, List.set_cons_zero, List.set_cons_succ]
              first | (refine wpP_quiet (v := ?_) rfl (by rfl) ?_ ?_; rotate_left; (· (intro w' hw'; go_simp; try with_reducible rfl)); simp only [Act.put, List.setIfInBounds_toArray, List.set_cons_zero, List.set_cons_succ]) | (refine wpP_skip rfl (by rfl) ?_; simp only [Act.put, List.setIfInBounds_toArray, List.set_cons_zero, List.set_cons_succ])
              first | (refine wpP_quiet (v := ?_) rfl (by rfl) ?_ ?_; rotate_left; (· (intro w' hw'; go_simp; try with_reducible rfl)); simp only [Act.put, List.setIfInBounds_toArray, List.set_cons_zero, List.set_cons_succ]) | (refine wpP_skip rfl (by rfl) ?_; simp only [Act.put, List.setIfInBounds_toArray, List.set_cons_zero, List.set_cons_succ])
              refine wpP_load rfl (by rfl) _ _ rfl w.heap.size 1 rfl (B8 c.pre) _ (fun w' hw' => range_keep rP (hw'.block _ hlP)) Try.underlying25 rfl (info_hash HC.out.pre) ?_; simp only [Act.put, List.setIfInBounds_toArray, List.set_cons_zero, List.set_cons_succ]
              first | (refine wpP_quiet (v := ?_) rfl (by rfl) ?_ ?_; rotate_left; (· (intro w' hw'; go_simp; try with_reducible rfl)); simp only [Act.put, List.setIfInBounds_toArray, List.set_cons_zero, List.set_cons_succ]) | (refine wpP_skip rfl (by rfl) ?_; simp only [Act.put, List.setIfInBounds_toArray, List.set_cons_zero, List.set_cons_succ])
              first | (refine wpP_quiet (v := ?_) rfl (by rfl) ?_ ?_; rotate_left; (· (intro w' hw'; go_simp; try with_reducible rfl)); simp only [Act.put, List.setIfInBounds_toArray, List.set_cons_zero, List.set_cons_succ]) | (refine wpP_skip rfl (by rfl) ?_; simp only [Act.put, List.setIfInBounds_toArray, List.set_cons_zero, List.set_cons_succ])
              first | (refine wpP_quiet (v := ?_) rfl (by rfl) ?_ ?_; rotate_left; (· (intro w' hw'; go_simp; try with_reducible rfl)); simp only [Act.put, List.setIfInBounds_toArray, List.set_cons_zero, List.set_cons_succ]) | (refine wpP_skip rfl (by rfl) ?_; simp only [Act.put, List.setIfInBounds_toArray, List.set_cons_zero, List.set_cons_succ])
              refine wpP_load rfl (by rfl) _ _ rfl CB 4 rfl (B8 x.root) _ (fun w' hw' => range_keep rR (hw'.block _ hlC)) Try.underlying25 rfl (info_hash HXO.out.root) ?_; simp only [Act.put, List.setIfInBounds_toArray, List.set_cons_zero, List.set_cons_succ]
              first | (refine wpP_quiet (v := ?_) rfl (by rfl) ?_ ?_; rotate_left; (· (intro w' hw'; go_simp; try with_reducible rfl)); simp only [Act.put, List.setIfInBounds_toArray, List.set_cons_zero, List.set_cons_succ]) | (refine wpP_skip rfl (by rfl) ?_; simp only [Act.put, List.setIfInBounds_toArray, List.set_cons_zero, List.set_cons_succ])
              refine wpP_quiet (v := ?_) rfl (by rfl) ?_ ?_; rotate_left; (· (intro w' hw'; have q0 := (hw'.cell (p := ⟨w.heap.size, 0, none⟩) hlP).trans k0; go_simp; try with_reducible rfl)); simp only [Act.put, List.setIfInBounds_toArray, List.set_cons_zero, List.set_cons_succ]
              refine wpP_two ?_ ?_
              · refine wpP_loud rfl (by rfl) ?_
                intro K hK
                go_simp
                refine (start_ok _ m _ (c.txs.take m) c.pre x.root c.now U0 SLT (by omega) (by omega) HC.out.pre HXO.out.root HCK.out).mono ?_
                rintro e V1 ⟨A1, c1, rfl, slg, hb1, fr1, le1⟩
                obtain ⟨g1, o1, rfl, hg1⟩ := slg.some_ (by omega)
                refine hK.out _ _ hb1 ?_
                clear hK K
                try simp only [Act.put, List.setIfInBounds_toArray, List.set_cons_zero, List.set_cons_succ]
                have hfr : U0.heap.size ≤ g1 := fr1 g1 rfl
                have LE1 := Lib.hid le1
                clear le1
                first | (refine wpP_quiet (v := ?_) rfl (by rfl) ?_ ?_; rotate_left; (· (intro w' hw'; go_simp; try with_reducible rfl)); simp only [Act.put, List.setIfInBounds_toArray, List.set_cons_zero, List.set_cons_succ]) | (refine wpP_skip rfl (by rfl) ?_; simp only [Act.put, List.setIfInBounds_toArray, List.set_cons_zero, List.set_cons_succ])
                first | (refine wpP_quiet (v := ?_) rfl (by rfl) ?_ ?_; rotate_left; (· (intro w' hw'; go_simp; try with_reducible rfl)); simp only [Act.put, List.setIfInBounds_toArray, List.set_cons_zero, List.set_cons_succ]) | (refine wpP_skip rfl (by rfl) ?_; simp only [Act.put, List.setIfInBounds_toArray, List.set_cons_zero, List.set_cons_succ])
                first | (refine wpP_quiet (v := ?_) rfl (by rfl) ?_ ?_; rotate_left; (· (intro w' hw'; go_simp; try with_reducible rfl)); simp only [Act.put, List.setIfInBounds_toArray, List.set_cons_zero, List.set_cons_succ]) | (refine wpP_skip rfl (by rfl) ?_; simp only [Act.put, List.setIfInBounds_toArray, List.set_cons_zero, List.set_cons_succ])
                refine wpP_one ?_
                refine wpP_loud rfl (by rfl) ?_
                intro K hK
                go_simp
                refine hK.out _ _ ((Below.refl _ _).alloc (by exact hb1.size) _) ?_
                clear hK K
                try simp only [Act.put, List.setIfInBounds_toArray, List.set_cons_zero, List.set_cons_succ]
                have bG : Blk (V1.alloc (.cells Try.zeroCells42 42)) V1.heap.size 42 Try.zeroCells42.toList := Blk.new V1 _ _
                have f2 : Below U0.heap.size U0 (V1.alloc (.cells Try.zeroCells42 42)) := hb1.alloc (by exact hb1.size) _
                have hVG : U0.heap.size ≤ V1.heap.size := hb1.size
                replace slg := slg.alloc (.cells Try.zeroCells42 42)
                clear hb1 fr1
                generalize V1.alloc (.cells Try.zeroCells42 42) = V2 at *
                generalize hG : V1.heap.size = G at *
                refine wpP_one ?_
                refine wpP_loud rfl (by rfl) ?_
                intro K hK
                refine wp_store_fld _ _ _ rfl G 0 _ _ (gcells (.slice (some ⟨g1, o1, none⟩) m c1) (turnD (startD (m : Int) c.pre x.root c.now))) rfl _ rfl rfl bG (by rw [gcells_len HGL.out, zero_len]; omega) (info_game HGL.out) (gcells_one rfl) ?_
                intro V3 bG3 bu3
                rw [put_all _ _ (by rw [gcells_len HGL.out, zero_len])] at bG3
                refine hK.out _ _ (below_but bu3 hVG f2.size) ?_
                clear hK K
                try simp only [Act.put, List.setIfInBounds_toArray, List.set_cons_zero, List.set_cons_succ]
                first | (refine wpP_quiet (v := ?_) rfl (by rfl) ?_ ?_; rotate_left; (· (intro w' hw'; go_simp; try with_reducible rfl)); simp only [Act.put, List.setIfInBounds_toArray, List.set_cons_zero, List.set_cons_succ]) | (refine wpP_skip rfl (by rfl) ?_; simp only [Act.put, List.setIfInBounds_toArray, List.set_cons_zero, List.set_cons_succ])
                refine wpP_done ?_
                clear rP rR hlP hlC
                have f3 := f2.trans (below_but bu3 hVG f2.size)
                have hgn : g1 ≠ G := by omega
                have slg3 := slg.but2 bu3 (fun b hb e => by injection e with e; have hb' : g1 = b := (by injection hb); omega)
                have HO3 := Lib.hid (HO.out.to f3)
                have bz3 := bz.to f3
                have ff3 := ff.trans (f3.mono ff.size)
                have hP0 := HO.out.bp.lt
                have hC0 := HO.out.bc.lt
                have hg0 : U0.heap.size ≤ g1 := hfr
                have hs3 := f3.size
                clear bu3 f3 slg f2 HO bz ff k33 k1 k0 SLT bG
                have HO := HO3
                have bz := bz3
                have ff := ff3
                clear HO3 bz3 ff3
                have kb : V3.cell? ⟨w.heap.size, 34 + b, none⟩ = some (.int .i64 z) := by rw [← HZ.out]; exact HO.out.kb b hb8
                have fzb := HO.out.bp.fz (34 + b)
                go_upto_region 17 with fail
                have HO5 := Lib.hid (HO.out.bank b hb8 (z - 100))
                have u5 : RBut (some w.heap.size) V3 (V3.setCell ⟨w.heap.size, 34 + b, none⟩ (.int .i64 (z - 100))) := RBut.setC _ _ _ _
                clear kb fzb
                generalize V3.setCell ⟨w.heap.size, 34 + b, none⟩ (.int .i64 (z - 100)) = V5 at *
                have bz5 := bz.but u5 (by intro e; injection e; omega)
                have bG5 := bG3.but u5 (by intro e; injection e; omega)
                have slg5 := slg3.but2 u5 (fun b hb e => by injection e with e; have hb' : g1 = b := (by injection hb); omega)
                have ff5 := ff.trans (below_but u5 (Nat.le_refl _) ff.size)
                have hs5 := u5.size
                have hAG := HAL.out
                clear HO bz ff bG3 slg3 u5 HAL
                obtain ⟨c5, hc5⟩ : ∃ c5 : CO, { c with bank := c.bank.set b (z - 100) } = c5 := ⟨_, rfl⟩
                rw [hc5] at HO5
                have HC5 := Lib.hid hc5
                have hcl5 : c5.pre.length = 32 ∧ c5.bank.length = 8 := ⟨HO5.out.ok.pre, HO5.out.ok.bank⟩
                have htx5 : c5.txs = c.txs := by rw [← hc5]
                have HCL5 := Lib.hid hcl5
                have HTX5 := Lib.hid htx5
                clear hc5 hcl5 htx5
                obtain ⟨gd, hgd⟩ : ∃ gd : GD, turnD (startD (m : Int) c.pre x.root c.now) = gd := ⟨_, rfl⟩
                rw [hgd] at bG5 HGL
                have HGD := Lib.hid hgd
                clear hgd
                have HFS := Lib.hid (fold_suit (.slice (some ⟨g1, o1, none⟩) m c1, ⟨(b : Int), gd, c.txs.take m⟩) HGL.out)
                have HHS := Lib.hid (show ∀ y ∈ c.txs.take m, y.length = 32 from fun y hy => HC.out.txs y (List.mem_of_mem_take hy))
                have HIG := Lib.hid (info_game (v := .slice (some ⟨g1, o1, none⟩) m c1) HGL.out)
                have k36 := HO5.out.cv
                clear k36
                refine wp_region_P (.take 0 (.take 1 (.take 2 (.take 3 (.take 5 (.take 6 (.take 7 (.two 4 (.one 8 (.one 9 (.take 10 (.take 11 (.one 12 .done))))) 8 (.one 4 (.one 9 (.take 10 (.take 11 (.one 12 .done))))))))))))) ((fun a b => ∀ t cs, Blk a G t cs → Blk b G t cs)) (by kernel_rfl) (by kernel_rfl) (by kernel_rfl) (by decide +kernel) (fun _ _ _ h => h) (fun _ _ _ h k t cs e => k t cs (h t cs e)) (by intro d v c a w h; first | (cases d <;> exact h) | exact absurd h.1 (by simp)) ?_
                have k36 : V5.drew.cell? ⟨CB, 36, none⟩ = some (.slice As ns cs) := HO5.out.cv
                have HO := Lib.hid HO5.out.drew
                have bz : Blk V5.drew (w.heap.size + 1) 30 zeroCC := bz5
                have bG : Blk V5.drew G 42 (gcells (.slice (some ⟨g1, o1, none⟩) m c1) gd) := bG5
                have slg := slg5.drew
                have ff := ff5.drew
                have hs6 : V3.heap.size ≤ V5.drew.heap.size := hs5
                clear bz5 bG5 slg5 ff5 hs5 HO5
                generalize V5.drew = V6 at *
                first | (refine wpP_quiet (v := ?_) rfl (by rfl) ?_ ?_; rotate_left; (· (intro w' hw'; go_simp; try with_reducible rfl)); simp only [Act.put, List.setIfInBounds_toArray, List.set_cons_zero, List.set_cons_succ]) | (refine wpP_skip rfl (by rfl) ?_; simp only [Act.put, List.setIfInBounds_toArray, List.set_cons_zero, List.set_cons_succ])
                first | (refine wpP_quiet (v := ?_) rfl (by rfl) ?_ ?_; rotate_left; (· (intro w' hw'; go_simp; try with_reducible rfl)); simp only [Act.put, List.setIfInBounds_toArray, List.set_cons_zero, List.set_cons_succ]) | (refine wpP_skip rfl (by rfl) ?_; simp only [Act.put, List.setIfInBounds_toArray, List.set_cons_zero, List.set_cons_succ])
                first | (refine wpP_quiet (v := ?_) rfl (by rfl) ?_ ?_; rotate_left; (· (intro w' hw'; go_simp; try with_reducible rfl)); simp only [Act.put, List.setIfInBounds_toArray, List.set_cons_zero, List.set_cons_succ]) | (refine wpP_skip rfl (by rfl) ?_; simp only [Act.put, List.setIfInBounds_toArray, List.set_cons_zero, List.set_cons_succ])
                first | (refine wpP_quiet (v := ?_) rfl (by rfl) ?_ ?_; rotate_left; (· (intro w' hw'; go_simp; try with_reducible rfl)); simp only [Act.put, List.setIfInBounds_toArray, List.set_cons_zero, List.set_cons_succ]) | (refine wpP_skip rfl (by rfl) ?_; simp only [Act.put, List.setIfInBounds_toArray, List.set_cons_zero, List.set_cons_succ])
                first | (refine wpP_quiet (v := ?_) rfl (by rfl) ?_ ?_; rotate_left; (· (intro w' hw'; go_simp; try with_reducible rfl)); simp only [Act.put, List.setIfInBounds_toArray, List.set_cons_zero, List.set_cons_succ]) | (refine wpP_skip rfl (by rfl) ?_; simp only [Act.put, List.setIfInBounds_toArray, List.set_cons_zero, List.set_cons_succ])
                refine wpP_load rfl (by rfl) _ _ rfl G 0 rfl _ _ (fun w' hw' => (hw' _ _ bG).range) Try.underlying42 rfl HIG.out ?_; simp only [Act.put, List.setIfInBounds_toArray, List.set_cons_zero, List.set_cons_succ]
                refine wpP_build rfl (by rfl) _ _ rfl _ (by exact built_suit (.slice (some ⟨g1, o1, none⟩) m c1) rfl (b : Int) gd HGL.out (c.txs.take m)) ?_; simp only [Act.put, List.setIfInBounds_toArray, List.set_cons_zero, List.set_cons_succ]
                refine wpP_two ?_ ?_
                · refine wpP_loud rfl (by rfl) ?_
                  intro K hK
                  go_simp
                  refine hK.out _ _ (fun _ _ h => h) ?_
                  clear hK K
                  try simp only [Act.put, List.setIfInBounds_toArray, List.set_cons_zero, List.set_cons_succ]
                  refine wpP_one ?_
                  have hsz : (suF (.slice (some ⟨g1, o1, none⟩) m c1, (⟨(b : Int), gd, c.txs.take m⟩ : SU))).length = 106 := suF_len HGL.out
                  refine wpP_loud rfl (by rfl) ?_
                  intro K hK
                  go_simp
                  rw [HFS.out _ rfl]
                  refine hK.out _ _ (fun t cs h => h.to ((Below.refl _ _).alloc (Nat.le_refl _) _)) ?_
                  clear hK K
                  try simp only [Act.put, List.setIfInBounds_toArray, List.set_cons_zero, List.set_cons_succ]
                  have nw := Sl.new V6 (suF (.slice (some ⟨g1, o1, none⟩) m c1, ⟨(b : Int), gd, c.txs.take m⟩)).toArray 44 (0, 0) 1 (show _ = 1 * 106 by rw [List.size_toArray, suF_len HGL.out])
                  have b67 : Below V6.heap.size V6 (V6.alloc (.cells (suF (.slice (some ⟨g1, o1, none⟩) m c1, ⟨(b : Int), gd, c.txs.take m⟩)).toArray 44)) := (Below.refl _ _).alloc (Nat.le_refl _) _
                  generalize V6.alloc (.cells (suF (.slice (some ⟨g1, o1, none⟩) m c1, ⟨(b : Int), gd, c.txs.take m⟩)).toArray 44) = V7 at *
                  have k367 : V7.cell? ⟨CB, 36, none⟩ = some (.slice As ns cs) := (b67.cell (p := ⟨CB, 36, none⟩) (by show CB < V6.heap.size; omega)).trans k36
                  have HO7 := Lib.hid (HO.out.to b67)
                  replace bG := bG.to b67
                  replace bz := bz.to b67
                  replace slg := slg.to b67
                  replace ff := ff.trans (b67.mono ff.size)
                  clear HO k36 hsz
                  have k36 := k367
                  clear k367
                  refine wpP_one ?_
                  obtain ⟨A2, n2, q2, l, hvs, ows, hml, hln, hho⟩ := HO7.out.su
                  obtain ⟨rfl, rfl, rfl⟩ : As = A2 ∧ ns = n2 ∧ cs = q2 := by injection hvs with a b c; exact ⟨a, b, c⟩
                  have hC7 := HO7.out.bc.lt
                  refine wpP_loud rfl (by rfl) ?_
                  intro K hK
                  refine wp_app V7 _ _ _ elS rfl rfl ows rfl nw (by intro u hu; exact suF_one rfl u (by simpa using hu)) (by omega) (by omega) (by omega) ?_
                  intro A4 c4 V8 g4
                  refine hK.out _ _ (fun t cs h => h.but g4.grow (by intro e; have := (hAG G e.symm).2; omega)) ?_
                  clear hK K
                  try simp only [Act.put, List.setIfInBounds_toArray, List.set_cons_zero, List.set_cons_succ]
                  have b78 : Below (CB + 1) V7 V8 := g4.below ows (by omega)
                  have o8 : Own V8 (CB + 1) 44 106 A4 (ns + 1) c4 (rows suF (l ++ [((.slice (some ⟨g1, o1, none⟩) m c1 : Value), (⟨(b : Int), gd, c.txs.take m⟩ : SU))])) := by
                    have := g4.own
                    rw [rows_app, rows_one]
                    simpa using this
                  have bt8 := HO7.out.bt.below b78 (by have := HO7.out.tc; omega)
                  have bp8 := HO7.out.bp.below b78 (by have := HO7.out.tc; have := HO7.out.pt; omega)
                  have bc8 := HO7.out.bc.below b78 (by omega)
                  have bz8 := bz.below b78 (by have := HO7.out.tc; have := HO7.out.pt; omega)
                  have slg8 := slg.but2 g4.grow (fun b hb e => by have hb' : g1 = b := (by injection hb); subst hb'; have := (hAG g1 e.symm).2; omega)
                  have ff8 := ff.trans (b78.mono (by have := HO7.out.tc; have := HO7.out.pt; omega))
                  have HH8 : Hid (∀ p ∈ l, HsX [CB] V8 p.1 p.2.hs) := (show ∀ p ∈ l, HsX [CB] V8 p.1 p.2.hs from fun p hp => by
                    have h2 := hho p hp
                    cases As with
                    | none =>
                      have := none_len ows
                      have := List.length_pos_of_mem hp
                      omega
                    | some a =>
                      have h6 := (ows.lt a.block rfl).1
                      exact (h2.but (p := a.block) g4.grow (by simp only [bnd]; omega)).x (fun b hb => by rw [List.mem_singleton.1 hb]; simp only [bnd]; omega))
                  have k368 : V8.cell? ⟨CB, 36, none⟩ = some (.slice As ns cs) := (b78.cell (p := ⟨CB, 36, none⟩) (by show CB < CB + 1; omega)).trans k36
                  have fz8 := bc8.fz 36
                  have HL2 := Lib.hid (And.intro hml hln)
                  have hrl := HO7.out.rl
                  have hc1 := HO7.out.c1
                  have hc2 := HO7.out.c2
                  have hpt := HO7.out.pt
                  have htc := HO7.out.tc
                  have hok5 := HO7.out.ok
                  have hcl5 := HO7.out.cl
                  have HR5 := Lib.hid (And.intro hrl (And.intro hc1 (And.intro hc2 (And.intro hok5 hcl5))))
                  clear hho ows hml hln hvs nw b67 b78 g4 k36 bz slg ff bG HO7 hrl hc1 hc2 hok5 hcl5
                  first | (refine wpP_quiet (v := ?_) rfl (by rfl) ?_ ?_; rotate_left; (· (intro w' hw'; go_simp; try with_reducible rfl)); simp only [Act.put, List.setIfInBounds_toArray, List.set_cons_zero, List.set_cons_succ]) | (refine wpP_skip rfl (by rfl) ?_; simp only [Act.put, List.setIfInBounds_toArray, List.set_cons_zero, List.set_cons_succ])
                  first | (refine wpP_quiet (v := ?_) rfl (by rfl) ?_ ?_; rotate_left; (· (intro w' hw'; go_simp; try with_reducible rfl)); simp only [Act.put, List.setIfInBounds_toArray, List.set_cons_zero, List.set_cons_succ]) | (refine wpP_skip rfl (by rfl) ?_; simp only [Act.put, List.setIfInBounds_toArray, List.set_cons_zero, List.set_cons_succ])
                  refine wpP_one ?_
                  refine wpP_loud rfl (by rfl) ?_
                  intro K hK
                  go_simp
                  refine hK.out _ _ (fun t cs h => h.but (RBut.setC _ _ _ _) (by intro e; injection e with e; omega)) ?_
                  clear hK K
                  try simp only [Act.put, List.setIfInBounds_toArray, List.set_cons_zero, List.set_cons_succ]
                  refine wpP_done ?_
                  have u9 : RBut (some CB) V8 (V8.setCell ⟨CB, 36, none⟩ (.slice A4 (ns + 1) c4)) := RBut.setC _ _ _ _
                  have hxr := HXO.out.root
                  have bc9 : Blk (V8.setCell ⟨CB, 36, none⟩ (.slice A4 (ns + 1) c4)) CB 39 (clF (.slice A4 (ns + 1) c4, { x with suits := x.suits ++ [(⟨(b : Int), gd, c.txs.take m⟩ : SU)] }) ++ rest) := co_store bc8 (by rw [List.length_append, clF_len hxr]; omega) (by rw [put_front _ _ _ _ (by rw [clF_len hxr]; simp), put_suits hxr])
                  generalize V8.setCell ⟨CB, 36, none⟩ (.slice A4 (ns + 1) c4) = V9 at *
                  have bp9 := bp8.but u9 (by intro e; injection e; omega)
                  have bt9 := bt8.but u9 (by intro e; injection e; omega)
                  have bz9 := bz8.but u9 (by intro e; injection e; omega)
                  have o9 := own_but o8 u9 (fun k hk => by injection hk; omega)
                  have slg9 := slg8.but2 u9 (fun b hb e => by injection e with e; have hb' : g1 = b := (by injection hb); omega)
                  have ff9 := ff8.trans (below_but u9 (by omega) ff8.size)
                  have sx9 : SuX [] V9 (.slice A4 (ns + 1) c4) (x.suits ++ [(⟨(b : Int), gd, c.txs.take m⟩ : SU)]) := ⟨A4, ns + 1, c4, l ++ [((.slice (some ⟨g1, o1, none⟩) m c1 : Value), (⟨(b : Int), gd, c.txs.take m⟩ : SU))], rfl, o9.sl, by rw [List.map_append, HL2.out.1]; rfl, by rw [List.length_append, HL2.out.2]; rfl, o9.le.1, fun _ _ h => (by cases h), fun p hp => by
                    rcases List.mem_append.1 hp with h | h
                    · exact ((HH8.out p h).but u9 (by simp)).less (fun _ h => by cases h)
                    · rw [List.mem_singleton.1 h]
                      exact ⟨_, _, _, rfl, slg9, by show (c.txs.take m).length = m; rw [List.length_take]; omega, LE1.out, fun _ _ h => by cases h⟩⟩
                  have hok : CO.ok { c5 with claims := [{ x with suits := x.suits ++ [(⟨(b : Int), gd, c.txs.take m⟩ : SU)] }] } := ⟨HR5.out.2.2.2.1.pre, HR5.out.2.2.2.1.txs, HR5.out.2.2.2.1.n, HR5.out.2.2.2.1.bank, fun y hy => by
                    rw [List.mem_singleton.1 hy]
                    refine ⟨hxr, fun s hs => ?_, by show (x.suits ++ [(⟨(b : Int), gd, c.txs.take m⟩ : SU)]).length ≤ 4096; rw [List.length_append, ← HL2.out.1, List.length_map, HL2.out.2]; simp; omega⟩
                    rcases List.mem_append.1 hs with h | h
                    · exact HXO.out.suits s h
                    · rw [List.mem_singleton.1 h]
                      exact ⟨HGL.out, HHS.out, by show (c.txs.take m).length ≤ 4194304; rw [List.length_take]; omega⟩, by simp⟩
                  have hXF : CoX [] V9 (.agg (coC (.slice (some ⟨T, 0, none⟩) c5.txs.length c5.txs.length) (.slice (some ⟨CB, 0, none⟩) 1 cC) c5).toArray) { c5 with claims := [{ x with suits := x.suits ++ [(⟨(b : Int), gd, c.txs.take m⟩ : SU)] }] } := one_cox (c := { c5 with claims := [{ x with suits := x.suits ++ [(⟨(b : Int), gd, c.txs.take m⟩ : SU)] }] }) hok rfl bt9 bc9 HR5.out.1 HR5.out.2.1 HR5.out.2.2.1 sx9
                  obtain ⟨c9, hc9⟩ : ∃ c9 : CO, { c5 with claims := [{ x with suits := x.suits ++ [(⟨(b : Int), gd, c.txs.take m⟩ : SU)] }] } = c9 := ⟨_, rfl⟩
                  have HE9 : Hid (suedC c x b = c9) := (show _ = _ by
                    rw [← hc9, ← HC5.out]
                    unfold suedC suedX
                    rw [HM.out, HZ.out, HGD.out, Int.toNat_natCast])
                  rw [hc9] at hok hXF
                  have HXF := Lib.hid hXF
                  have HOK := Lib.hid hok
                  have hl9 : c9.pre.length = 32 ∧ c9.bank.length = 8 := ⟨hok.pre, hok.bank⟩
                  have HL9 := Lib.hid hl9
                  have HCC := Lib.hid (HCL5)
                  clear hXF hok hc9 sx9 slg9 o9 bt9 bc9 u9 bp8 bt8 bz8 o8 slg8 ff8 bc8 k368 fz8 HH8
                  have I5 := Lib.hid (info_co (vt := .slice (some ⟨T, 0, none⟩) c5.txs.length c5.txs.length) (vc := .slice (some ⟨CB, 0, none⟩) 1 cC) HCL5.out.1 HCL5.out.2)
                  go_wp2_with (first
                    | (refine wpl_load_fld (by rfl) _ _ rfl w.heap.size 0 rfl (coC (.slice (some ⟨T, 0, none⟩) c5.txs.length c5.txs.length) (.slice (some ⟨CB, 0, none⟩) 1 cC) c5) _ bp9.range Try.underlying30 rfl I5.out ?_))
                  refine (ownC_any _ _ HOK.out V9 HXF.out).mono ?_
                  intro e w6 hro
                  obtain ⟨vt6, vc6, rfl, o6t, o6c, hb6, hfin⟩ := hro.xt HOK.out
                  have hz9 := bz9.lt
                  have hf9 := ff9.size
                  have bz6 := bz9.to hb6
                  have f6 := ff9.trans (hb6.mono ff9.size)
                  have IC6 := Lib.hid (info_co (vt := vt6) (vc := vc6) (c := c9) HL9.out.1 HL9.out.2)
                  have HL6 : Hid ((coC vt6 vc6 c9).length = 43) := Lib.hid (coC_len (c := c9) HL9.out.1 HL9.out.2)
                  clear hro bz9 ff9 HXF
                  go_wp2_with (first
                    | (refine wpl_store_fld (by rfl) _ _ _ rfl (w.heap.size + 1) 0 _ _ (coC vt6 vc6 c9) rfl _ rfl rfl bz6 (by rw [HL6.out]; exact Nat.le_refl _) IC6.out (coC_one o6t o6c) ?_
                       intro w7 bz7 bu7
                       rw [put_all _ _ (by rw [HL6.out]; rfl)] at bz7))
                  refine bodyPost_ret (results_blk2 Try.results13 rfl rfl bz7 Try.underlying30 rfl IC6.out) rfl ?_
                  refine ⟨_, rfl, ?_, f6.trans (below_but bu7 (by omega) f6.size)⟩
                  intro S hS
                  show CoX S w7 _ (suedC c x b)
                  rw [HE9.out]
                  exact hfin (w.heap.size + 1) w7 hz9 bu7 S (fun b hb => by have := hS b hb; omega)
                · have hsz : (suF (.slice (some ⟨g1, o1, none⟩) m c1, (⟨(b : Int), gd, c.txs.take m⟩ : SU))).length = 106 := suF_len HGL.out
                  refine wpP_loud rfl (by rfl) ?_
                  intro K hK
                  go_simp
                  rw [HFS.out _ rfl]
                  refine hK.out _ _ (fun t cs h => h.to ((Below.refl _ _).alloc (Nat.le_refl _) _)) ?_
                  clear hK K
                  try simp only [Act.put, List.setIfInBounds_toArray, List.set_cons_zero, List.set_cons_succ]
                  have nw := Sl.new V6 (suF (.slice (some ⟨g1, o1, none⟩) m c1, ⟨(b : Int), gd, c.txs.take m⟩)).toArray 44 (0, 0) 1 (show _ = 1 * 106 by rw [List.size_toArray, suF_len HGL.out])
                  have b67 : Below V6.heap.size V6 (V6.alloc (.cells (suF (.slice (some ⟨g1, o1, none⟩) m c1, ⟨(b : Int), gd, c.txs.take m⟩)).toArray 44)) := (Below.refl _ _).alloc (Nat.le_refl _) _
                  generalize V6.alloc (.cells (suF (.slice (some ⟨g1, o1, none⟩) m c1, ⟨(b : Int), gd, c.txs.take m⟩)).toArray 44) = V7 at *
                  have k367 : V7.cell? ⟨CB, 36, none⟩ = some (.slice As ns cs) := (b67.cell (p := ⟨CB, 36, none⟩) (by show CB < V6.heap.size; omega)).trans k36
                  have HO7 := Lib.hid (HO.out.to b67)
                  replace bG := bG.to b67
                  replace bz := bz.to b67
                  replace slg := slg.to b67
                  replace ff := ff.trans (b67.mono ff.size)
                  clear HO k36 hsz
                  have k36 := k367
                  clear k367
                  refine wpP_one ?_
                  refine wpP_loud rfl (by rfl) ?_
                  intro K hK
                  go_simp
                  refine hK.out _ _ (fun _ _ h => h) ?_
                  clear hK K
                  try simp only [Act.put, List.setIfInBounds_toArray, List.set_cons_zero, List.set_cons_succ]
                  refine wpP_one ?_
                  obtain ⟨A2, n2, q2, l, hvs, ows, hml, hln, hho⟩ := HO7.out.su
                  obtain ⟨rfl, rfl, rfl⟩ : As = A2 ∧ ns = n2 ∧ cs = q2 := by injection hvs with a b c; exact ⟨a, b, c⟩
                  have hC7 := HO7.out.bc.lt
                  refine wpP_loud rfl (by rfl) ?_
                  intro K hK
                  refine wp_app V7 _ _ _ elS rfl rfl ows rfl nw (by intro u hu; exact suF_one rfl u (by simpa using hu)) (by omega) (by omega) (by omega) ?_
                  intro A4 c4 V8 g4
                  refine hK.out _ _ (fun t cs h => h.but g4.grow (by intro e; have := (hAG G e.symm).2; omega)) ?_
                  clear hK K
                  try simp only [Act.put, List.setIfInBounds_toArray, List.set_cons_zero, List.set_cons_succ]
                  have b78 : Below (CB + 1) V7 V8 := g4.below ows (by omega)
                  have o8 : Own V8 (CB + 1) 44 106 A4 (ns + 1) c4 (rows suF (l ++ [((.slice (some ⟨g1, o1, none⟩) m c1 : Value), (⟨(b : Int), gd, c.txs.take m⟩ : SU))])) := by
                    have := g4.own
                    rw [rows_app, rows_one]
                    simpa using this
                  have bt8 := HO7.out.bt.below b78 (by have := HO7.out.tc; omega)
                  have bp8 := HO7.out.bp.below b78 (by have := HO7.out.tc; have := HO7.out.pt; omega)
                  have bc8 := HO7.out.bc.below b78 (by omega)
                  have bz8 := bz.below b78 (by have := HO7.out.tc; have := HO7.out.pt; omega)
                  have slg8 := slg.but2 g4.grow (fun b hb e => by have hb' : g1 = b := (by injection hb); subst hb'; have := (hAG g1 e.symm).2; omega)
                  have ff8 := ff.trans (b78.mono (by have := HO7.out.tc; have := HO7.out.pt; omega))
                  have HH8 : Hid (∀ p ∈ l, HsX [CB] V8 p.1 p.2.hs) := (show ∀ p ∈ l, HsX [CB] V8 p.1 p.2.hs from fun p hp => by
                    have h2 := hho p hp
                    cases As with
                    | none =>
                      have := none_len ows
                      have := List.length_pos_of_mem hp
                      omega
                    | some a =>
                      have h6 := (ows.lt a.block rfl).1
                      exact (h2.but (p := a.block) g4.grow (by simp only [bnd]; omega)).x (fun b hb => by rw [List.mem_singleton.1 hb]; simp only [bnd]; omega))
                  have k368 : V8.cell? ⟨CB, 36, none⟩ = some (.slice As ns cs) := (b78.cell (p := ⟨CB, 36, none⟩) (by show CB < CB + 1; omega)).trans k36
                  have fz8 := bc8.fz 36
                  have HL2 := Lib.hid (And.intro hml hln)
                  have hrl := HO7.out.rl
                  have hc1 := HO7.out.c1
                  have hc2 := HO7.out.c2
                  have hpt := HO7.out.pt
                  have htc := HO7.out.tc
                  have hok5 := HO7.out.ok
                  have hcl5 := HO7.out.cl
                  have HR5 := Lib.hid (And.intro hrl (And.intro hc1 (And.intro hc2 (And.intro hok5 hcl5))))
                  clear hho ows hml hln hvs nw b67 b78 g4 k36 bz slg ff bG HO7 hrl hc1 hc2 hok5 hcl5
                  first | (refine wpP_quiet (v := ?_) rfl (by rfl) ?_ ?_; rotate_left; (· (intro w' hw'; go_simp; try with_reducible rfl)); simp only [Act.put, List.setIfInBounds_toArray, List.set_cons_zero, List.set_cons_succ]) | (refine wpP_skip rfl (by rfl) ?_; simp only [Act.put, List.setIfInBounds_toArray, List.set_cons_zero, List.set_cons_succ])
                  first | (refine wpP_quiet (v := ?_) rfl (by rfl) ?_ ?_; rotate_left; (· (intro w' hw'; go_simp; try with_reducible rfl)); simp only [Act.put, List.setIfInBounds_toArray, List.set_cons_zero, List.set_cons_succ]) | (refine wpP_skip rfl (by rfl) ?_; simp only [Act.put, List.setIfInBounds_toArray, List.set_cons_zero, List.set_cons_succ])
                  refine wpP_one ?_
                  refine wpP_loud rfl (by rfl) ?_
                  intro K hK
                  go_simp
                  refine hK.out _ _ (fun t cs h => h.but (RBut.setC _ _ _ _) (by intro e; injection e with e; omega)) ?_
                  clear hK K
                  try simp only [Act.put, List.setIfInBounds_toArray, List.set_cons_zero, List.set_cons_succ]
                  refine wpP_done ?_
                  have u9 : RBut (some CB) V8 (V8.setCell ⟨CB, 36, none⟩ (.slice A4 (ns + 1) c4)) := RBut.setC _ _ _ _
                  have hxr := HXO.out.root
                  have bc9 : Blk (V8.setCell ⟨CB, 36, none⟩ (.slice A4 (ns + 1) c4)) CB 39 (clF (.slice A4 (ns + 1) c4, { x with suits := x.suits ++ [(⟨(b : Int), gd, c.txs.take m⟩ : SU)] }) ++ rest) := co_store bc8 (by rw [List.length_append, clF_len hxr]; omega) (by rw [put_front _ _ _ _ (by rw [clF_len hxr]; simp), put_suits hxr])
                  generalize V8.setCell ⟨CB, 36, none⟩ (.slice A4 (ns + 1) c4) = V9 at *
                  have bp9 := bp8.but u9 (by intro e; injection e; omega)
                  have bt9 := bt8.but u9 (by intro e; injection e; omega)
                  have bz9 := bz8.but u9 (by intro e; injection e; omega)
                  have o9 := own_but o8 u9 (fun k hk => by injection hk; omega)
                  have slg9 := slg8.but2 u9 (fun b hb e => by injection e with e; have hb' : g1 = b := (by injection hb); omega)
                  have ff9 := ff8.trans (below_but u9 (by omega) ff8.size)
                  have sx9 : SuX [] V9 (.slice A4 (ns + 1) c4) (x.suits ++ [(⟨(b : Int), gd, c.txs.take m⟩ : SU)]) := ⟨A4, ns + 1, c4, l ++ [((.slice (some ⟨g1, o1, none⟩) m c1 : Value), (⟨(b : Int), gd, c.txs.take m⟩ : SU))], rfl, o9.sl, by rw [List.map_append, HL2.out.1]; rfl, by rw [List.length_append, HL2.out.2]; rfl, o9.le.1, fun _ _ h => (by cases h), fun p hp => by
                    rcases List.mem_append.1 hp with h | h
                    · exact ((HH8.out p h).but u9 (by simp)).less (fun _ h => by cases h)
                    · rw [List.mem_singleton.1 h]
                      exact ⟨_, _, _, rfl, slg9, by show (c.txs.take m).length = m; rw [List.length_take]; omega, LE1.out, fun _ _ h => by cases h⟩⟩
                  have hok : CO.ok { c5 with claims := [{ x with suits := x.suits ++ [(⟨(b : Int), gd, c.txs.take m⟩ : SU)] }] } := ⟨HR5.out.2.2.2.1.pre, HR5.out.2.2.2.1.txs, HR5.out.2.2.2.1.n, HR5.out.2.2.2.1.bank, fun y hy => by
                    rw [List.mem_singleton.1 hy]
                    refine ⟨hxr, fun s hs => ?_, by show (x.suits ++ [(⟨(b : Int), gd, c.txs.take m⟩ : SU)]).length ≤ 4096; rw [List.length_append, ← HL2.out.1, List.length_map, HL2.out.2]; simp; omega⟩
                    rcases List.mem_append.1 hs with h | h
                    · exact HXO.out.suits s h
                    · rw [List.mem_singleton.1 h]
                      exact ⟨HGL.out, HHS.out, by show (c.txs.take m).length ≤ 4194304; rw [List.length_take]; omega⟩, by simp⟩
                  have hXF : CoX [] V9 (.agg (coC (.slice (some ⟨T, 0, none⟩) c5.txs.length c5.txs.length) (.slice (some ⟨CB, 0, none⟩) 1 cC) c5).toArray) { c5 with claims := [{ x with suits := x.suits ++ [(⟨(b : Int), gd, c.txs.take m⟩ : SU)] }] } := one_cox (c := { c5 with claims := [{ x with suits := x.suits ++ [(⟨(b : Int), gd, c.txs.take m⟩ : SU)] }] }) hok rfl bt9 bc9 HR5.out.1 HR5.out.2.1 HR5.out.2.2.1 sx9
                  obtain ⟨c9, hc9⟩ : ∃ c9 : CO, { c5 with claims := [{ x with suits := x.suits ++ [(⟨(b : Int), gd, c.txs.take m⟩ : SU)] }] } = c9 := ⟨_, rfl⟩
                  have HE9 : Hid (suedC c x b = c9) := (show _ = _ by
                    rw [← hc9, ← HC5.out]
                    unfold suedC suedX
                    rw [HM.out, HZ.out, HGD.out, Int.toNat_natCast])
                  rw [hc9] at hok hXF
                  have HXF := Lib.hid hXF
                  have HOK := Lib.hid hok
                  have hl9 : c9.pre.length = 32 ∧ c9.bank.length = 8 := ⟨hok.pre, hok.bank⟩
                  have HL9 := Lib.hid hl9
                  have HCC := Lib.hid (HCL5)
                  clear hXF hok hc9 sx9 slg9 o9 bt9 bc9 u9 bp8 bt8 bz8 o8 slg8 ff8 bc8 k368 fz8 HH8
                  have I5 := Lib.hid (info_co (vt := .slice (some ⟨T, 0, none⟩) c5.txs.length c5.txs.length) (vc := .slice (some ⟨CB, 0, none⟩) 1 cC) HCL5.out.1 HCL5.out.2)
                  go_wp2_with (first
                    | (refine wpl_load_fld (by rfl) _ _ rfl w.heap.size 0 rfl (coC (.slice (some ⟨T, 0, none⟩) c5.txs.length c5.txs.length) (.slice (some ⟨CB, 0, none⟩) 1 cC) c5) _ bp9.range Try.underlying30 rfl I5.out ?_))
                  refine (ownC_any _ _ HOK.out V9 HXF.out).mono ?_
                  intro e w6 hro
                  obtain ⟨vt6, vc6, rfl, o6t, o6c, hb6, hfin⟩ := hro.xt HOK.out
                  have hz9 := bz9.lt
                  have hf9 := ff9.size
                  have bz6 := bz9.to hb6
                  have f6 := ff9.trans (hb6.mono ff9.size)
                  have IC6 := Lib.hid (info_co (vt := vt6) (vc := vc6) (c := c9) HL9.out.1 HL9.out.2)
                  have HL6 : Hid ((coC vt6 vc6 c9).length = 43) := Lib.hid (coC_len (c := c9) HL9.out.1 HL9.out.2)
                  clear hro bz9 ff9 HXF
                  go_wp2_with (first
                    | (refine wpl_store_fld (by rfl) _ _ _ rfl (w.heap.size + 1) 0 _ _ (coC vt6 vc6 c9) rfl _ rfl rfl bz6 (by rw [HL6.out]; exact Nat.le_refl _) IC6.out (coC_one o6t o6c) ?_
                       intro w7 bz7 bu7
                       rw [put_all _ _ (by rw [HL6.out]; rfl)] at bz7))
                  refine bodyPost_ret (results_blk2 Try.results13 rfl rfl bz7 Try.underlying30 rfl IC6.out) rfl ?_
                  refine ⟨_, rfl, ?_, f6.trans (below_but bu7 (by omega) f6.size)⟩
                  intro S hS
                  show CoX S w7 _ (suedC c x b)
                  rw [HE9.out]
                  exact hfin (w.heap.size + 1) w7 hz9 bu7 S (fun b hb => by have := hS b hb; omega)
              · refine wpP_loud rfl (by rfl) ?_
                intro K hK
                go_simp
                refine hK.out _ _ ((Below.refl _ _).alloc (Nat.le_refl _) _) ?_
                clear hK K
                try simp only [Act.put, List.setIfInBounds_toArray, List.set_cons_zero, List.set_cons_succ]
                have bG : Blk (U0.alloc (.cells Try.zeroCells42 42)) U0.heap.size 42 Try.zeroCells42.toList := Blk.new U0 _ _
                have f2 : Below U0.heap.size U0 (U0.alloc (.cells Try.zeroCells42 42)) := (Below.refl _ _).alloc (Nat.le_refl _) _
                generalize U0.alloc (.cells Try.zeroCells42 42) = V2 at *
                have hVG : U0.heap.size ≤ U0.heap.size := Nat.le_refl _
                obtain ⟨G, hG⟩ : ∃ G, U0.heap.size = G := ⟨_, rfl⟩
                rw [show Blk V2 U0.heap.size 42 Try.zeroCells42.toList = Blk V2 G 42 Try.zeroCells42.toList from by rw [hG]] at bG
                replace hVG : U0.heap.size ≤ G := by omega
                have hGl := bG.lt
                refine wpP_one ?_
                refine wpP_loud rfl (by rfl) ?_
                intro K hK
                go_simp
                refine (start_ok _ m _ (c.txs.take m) c.pre x.root c.now V2 (SLT.to f2) (by omega) (by omega) HC.out.pre HXO.out.root HCK.out).mono ?_
                rintro e V1 ⟨A1, c1, rfl, slg, hb1, fr1, le1⟩
                obtain ⟨g1, o1, rfl, hg1⟩ := slg.some_ (by omega)
                refine hK.out _ _ (hb1.mono f2.size) ?_
                clear hK K
                try simp only [Act.put, List.setIfInBounds_toArray, List.set_cons_zero, List.set_cons_succ]
                have hg2 : V2.heap.size ≤ g1 := fr1 g1 rfl
                have hfr : U0.heap.size ≤ g1 := Nat.le_trans f2.size hg2
                replace bG := bG.to hb1
                replace f2 := f2.trans (hb1.mono f2.size)
                have LE1 := Lib.hid le1
                clear hb1 fr1 le1
                first | (refine wpP_quiet (v := ?_) rfl (by rfl) ?_ ?_; rotate_left; (· (intro w' hw'; go_simp; try with_reducible rfl)); simp only [Act.put, List.setIfInBounds_toArray, List.set_cons_zero, List.set_cons_succ]) | (refine wpP_skip rfl (by rfl) ?_; simp only [Act.put, List.setIfInBounds_toArray, List.set_cons_zero, List.set_cons_succ])
                first | (refine wpP_quiet (v := ?_) rfl (by rfl) ?_ ?_; rotate_left; (· (intro w' hw'; go_simp; try with_reducible rfl)); simp only [Act.put, List.setIfInBounds_toArray, List.set_cons_zero, List.set_cons_succ]) | (refine wpP_skip rfl (by rfl) ?_; simp only [Act.put, List.setIfInBounds_toArray, List.set_cons_zero, List.set_cons_succ])
                first | (refine wpP_quiet (v := ?_) rfl (by rfl) ?_ ?_; rotate_left; (· (intro w' hw'; go_simp; try with_reducible rfl)); simp only [Act.put, List.setIfInBounds_toArray, List.set_cons_zero, List.set_cons_succ]) | (refine wpP_skip rfl (by rfl) ?_; simp only [Act.put, List.setIfInBounds_toArray, List.set_cons_zero, List.set_cons_succ])
                refine wpP_one ?_
                refine wpP_loud rfl (by rfl) ?_
                intro K hK
                refine wp_store_fld _ _ _ rfl G 0 _ _ (gcells (.slice (some ⟨g1, o1, none⟩) m c1) (turnD (startD (m : Int) c.pre x.root c.now))) rfl _ rfl rfl bG (by rw [gcells_len HGL.out, zero_len]; omega) (info_game HGL.out) (gcells_one rfl) ?_
                intro V3 bG3 bu3
                rw [put_all _ _ (by rw [gcells_len HGL.out, zero_len])] at bG3
                refine hK.out _ _ (below_but bu3 hVG f2.size) ?_
                clear hK K
                try simp only [Act.put, List.setIfInBounds_toArray, List.set_cons_zero, List.set_cons_succ]
                first | (refine wpP_quiet (v := ?_) rfl (by rfl) ?_ ?_; rotate_left; (· (intro w' hw'; go_simp; try with_reducible rfl)); simp only [Act.put, List.setIfInBounds_toArray, List.set_cons_zero, List.set_cons_succ]) | (refine wpP_skip rfl (by rfl) ?_; simp only [Act.put, List.setIfInBounds_toArray, List.set_cons_zero, List.set_cons_succ])
                refine wpP_done ?_
                clear rP rR hlP hlC
                have f3 := f2.trans (below_but bu3 hVG f2.size)
                have hgn : g1 ≠ G := by omega
                have slg3 := slg.but2 bu3 (fun b hb e => by injection e with e; have hb' : g1 = b := (by injection hb); omega)
                have HO3 := Lib.hid (HO.out.to f3)
                have bz3 := bz.to f3
                have ff3 := ff.trans (f3.mono ff.size)
                have hP0 := HO.out.bp.lt
                have hC0 := HO.out.bc.lt
                have hg0 : U0.heap.size ≤ g1 := hfr
                have hs3 := f3.size
                clear bu3 f3 slg f2 HO bz ff k33 k1 k0 SLT bG
                have HO := HO3
                have bz := bz3
                have ff := ff3
                clear HO3 bz3 ff3
                have kb : V3.cell? ⟨w.heap.size, 34 + b, none⟩ = some (.int .i64 z) := by rw [← HZ.out]; exact HO.out.kb b hb8
                have fzb := HO.out.bp.fz (34 + b)
                go_upto_region 17 with fail
                have HO5 := Lib.hid (HO.out.bank b hb8 (z - 100))
                have u5 : RBut (some w.heap.size) V3 (V3.setCell ⟨w.heap.size, 34 + b, none⟩ (.int .i64 (z - 100))) := RBut.setC _ _ _ _
                clear kb fzb
                generalize V3.setCell ⟨w.heap.size, 34 + b, none⟩ (.int .i64 (z - 100)) = V5 at *
                have bz5 := bz.but u5 (by intro e; injection e; omega)
                have bG5 := bG3.but u5 (by intro e; injection e; omega)
                have slg5 := slg3.but2 u5 (fun b hb e => by injection e with e; have hb' : g1 = b := (by injection hb); omega)
                have ff5 := ff.trans (below_but u5 (Nat.le_refl _) ff.size)
                have hs5 := u5.size
                have hAG := HAL.out
                clear HO bz ff bG3 slg3 u5 HAL
                obtain ⟨c5, hc5⟩ : ∃ c5 : CO, { c with bank := c.bank.set b (z - 100) } = c5 := ⟨_, rfl⟩
                rw [hc5] at HO5
                have HC5 := Lib.hid hc5
                have hcl5 : c5.pre.length = 32 ∧ c5.bank.length = 8 := ⟨HO5.out.ok.pre, HO5.out.ok.bank⟩
                have htx5 : c5.txs = c.txs := by rw [← hc5]
                have HCL5 := Lib.hid hcl5
                have HTX5 := Lib.hid htx5
                clear hc5 hcl5 htx5
                obtain ⟨gd, hgd⟩ : ∃ gd : GD, turnD (startD (m : Int) c.pre x.root c.now) = gd := ⟨_, rfl⟩
                rw [hgd] at bG5 HGL
                have HGD := Lib.hid hgd
                clear hgd
                have HFS := Lib.hid (fold_suit (.slice (some ⟨g1, o1, none⟩) m c1, ⟨(b : Int), gd, c.txs.take m⟩) HGL.out)
                have HHS := Lib.hid (show ∀ y ∈ c.txs.take m, y.length = 32 from fun y hy => HC.out.txs y (List.mem_of_mem_take hy))
                have HIG := Lib.hid (info_game (v := .slice (some ⟨g1, o1, none⟩) m c1) HGL.out)
                have k36 := HO5.out.cv
                clear k36
                refine wp_region_P (.take 0 (.take 1 (.take 2 (.take 3 (.take 5 (.take 6 (.take 7 (.two 4 (.one 8 (.one 9 (.take 10 (.take 11 (.one 12 .done))))) 8 (.one 4 (.one 9 (.take 10 (.take 11 (.one 12 .done))))))))))))) ((fun a b => ∀ t cs, Blk a G t cs → Blk b G t cs)) (by kernel_rfl) (by kernel_rfl) (by kernel_rfl) (by decide +kernel) (fun _ _ _ h => h) (fun _ _ _ h k t cs e => k t cs (h t cs e)) (by intro d v c a w h; first | (cases d <;> exact h) | exact absurd h.1 (by simp)) ?_
                have k36 : V5.drew.cell? ⟨CB, 36, none⟩ = some (.slice As ns cs) := HO5.out.cv
                have HO := Lib.hid HO5.out.drew
                have bz : Blk V5.drew (w.heap.size + 1) 30 zeroCC := bz5
                have bG : Blk V5.drew G 42 (gcells (.slice (some ⟨g1, o1, none⟩) m c1) gd) := bG5
                have slg := slg5.drew
                have ff := ff5.drew
                have hs6 : V3.heap.size ≤ V5.drew.heap.size := hs5
                clear bz5 bG5 slg5 ff5 hs5 HO5
                generalize V5.drew = V6 at *
                first | (refine wpP_quiet (v := ?_) rfl (by rfl) ?_ ?_; rotate_left; (· (intro w' hw'; go_simp; try with_reducible rfl)); simp only [Act.put, List.setIfInBounds_toArray, List.set_cons_zero, List.set_cons_succ]) | (refine wpP_skip rfl (by rfl) ?_; simp only [Act.put, List.setIfInBounds_toArray, List.set_cons_zero, List.set_cons_succ])
                first | (refine wpP_quiet (v := ?_) rfl (by rfl) ?_ ?_; rotate_left; (· (intro w' hw'; go_simp; try with_reducible rfl)); simp only [Act.put, List.setIfInBounds_toArray, List.set_cons_zero, List.set_cons_succ]) | (refine wpP_skip rfl (by rfl) ?_; simp only [Act.put, List.setIfInBounds_toArray, List.set_cons_zero, List.set_cons_succ])
                first | (refine wpP_quiet (v := ?_) rfl (by rfl) ?_ ?_; rotate_left; (· (intro w' hw'; go_simp; try with_reducible rfl)); simp only [Act.put, List.setIfInBounds_toArray, List.set_cons_zero, List.set_cons_succ]) | (refine wpP_skip rfl (by rfl) ?_; simp only [Act.put, List.setIfInBounds_toArray, List.set_cons_zero, List.set_cons_succ])
                first | (refine wpP_quiet (v := ?_) rfl (by rfl) ?_ ?_; rotate_left; (· (intro w' hw'; go_simp; try with_reducible rfl)); simp only [Act.put, List.setIfInBounds_toArray, List.set_cons_zero, List.set_cons_succ]) | (refine wpP_skip rfl (by rfl) ?_; simp only [Act.put, List.setIfInBounds_toArray, List.set_cons_zero, List.set_cons_succ])
                first | (refine wpP_quiet (v := ?_) rfl (by rfl) ?_ ?_; rotate_left; (· (intro w' hw'; go_simp; try with_reducible rfl)); simp only [Act.put, List.setIfInBounds_toArray, List.set_cons_zero, List.set_cons_succ]) | (refine wpP_skip rfl (by rfl) ?_; simp only [Act.put, List.setIfInBounds_toArray, List.set_cons_zero, List.set_cons_succ])
                refine wpP_load rfl (by rfl) _ _ rfl G 0 rfl _ _ (fun w' hw' => (hw' _ _ bG).range) Try.underlying42 rfl HIG.out ?_; simp only [Act.put, List.setIfInBounds_toArray, List.set_cons_zero, List.set_cons_succ]
                refine wpP_build rfl (by rfl) _ _ rfl _ (by exact built_suit (.slice (some ⟨g1, o1, none⟩) m c1) rfl (b : Int) gd HGL.out (c.txs.take m)) ?_; simp only [Act.put, List.setIfInBounds_toArray, List.set_cons_zero, List.set_cons_succ]
                refine wpP_two ?_ ?_
                · refine wpP_loud rfl (by rfl) ?_
                  intro K hK
                  go_simp
                  refine hK.out _ _ (fun _ _ h => h) ?_
                  clear hK K
                  try simp only [Act.put, List.setIfInBounds_toArray, List.set_cons_zero, List.set_cons_succ]
                  refine wpP_one ?_
                  have hsz : (suF (.slice (some ⟨g1, o1, none⟩) m c1, (⟨(b : Int), gd, c.txs.take m⟩ : SU))).length = 106 := suF_len HGL.out
                  refine wpP_loud rfl (by rfl) ?_
                  intro K hK
                  go_simp
                  rw [HFS.out _ rfl]
                  refine hK.out _ _ (fun t cs h => h.to ((Below.refl _ _).alloc (Nat.le_refl _) _)) ?_
                  clear hK K
                  try simp only [Act.put, List.setIfInBounds_toArray, List.set_cons_zero, List.set_cons_succ]
                  have nw := Sl.new V6 (suF (.slice (some ⟨g1, o1, none⟩) m c1, ⟨(b : Int), gd, c.txs.take m⟩)).toArray 44 (0, 0) 1 (show _ = 1 * 106 by rw [List.size_toArray, suF_len HGL.out])
                  have b67 : Below V6.heap.size V6 (V6.alloc (.cells (suF (.slice (some ⟨g1, o1, none⟩) m c1, ⟨(b : Int), gd, c.txs.take m⟩)).toArray 44)) := (Below.refl _ _).alloc (Nat.le_refl _) _
                  generalize V6.alloc (.cells (suF (.slice (some ⟨g1, o1, none⟩) m c1, ⟨(b : Int), gd, c.txs.take m⟩)).toArray 44) = V7 at *
                  have k367 : V7.cell? ⟨CB, 36, none⟩ = some (.slice As ns cs) := (b67.cell (p := ⟨CB, 36, none⟩) (by show CB < V6.heap.size; omega)).trans k36
                  have HO7 := Lib.hid (HO.out.to b67)
                  replace bG := bG.to b67
                  replace bz := bz.to b67
                  replace slg := slg.to b67
                  replace ff := ff.trans (b67.mono ff.size)
                  clear HO k36 hsz
                  have k36 := k367
                  clear k367
                  refine wpP_one ?_
                  obtain ⟨A2, n2, q2, l, hvs, ows, hml, hln, hho⟩ := HO7.out.su
                  obtain ⟨rfl, rfl, rfl⟩ : As = A2 ∧ ns = n2 ∧ cs = q2 := by injection hvs with a b c; exact ⟨a, b, c⟩
                  have hC7 := HO7.out.bc.lt
                  refine wpP_loud rfl (by rfl) ?_
                  intro K hK
                  refine wp_app V7 _ _ _ elS rfl rfl ows rfl nw (by intro u hu; exact suF_one rfl u (by simpa using hu)) (by omega) (by omega) (by omega) ?_
                  intro A4 c4 V8 g4
                  refine hK.out _ _ (fun t cs h => h.but g4.grow (by intro e; have := (hAG G e.symm).2; omega)) ?_
                  clear hK K
                  try simp only [Act.put, List.setIfInBounds_toArray, List.set_cons_zero, List.set_cons_succ]
                  have b78 : Below (CB + 1) V7 V8 := g4.below ows (by omega)
                  have o8 : Own V8 (CB + 1) 44 106 A4 (ns + 1) c4 (rows suF (l ++ [((.slice (some ⟨g1, o1, none⟩) m c1 : Value), (⟨(b : Int), gd, c.txs.take m⟩ : SU))])) := by
                    have := g4.own
                    rw [rows_app, rows_one]
                    simpa using this
                  have bt8 := HO7.out.bt.below b78 (by have := HO7.out.tc; omega)
                  have bp8 := HO7.out.bp.below b78 (by have := HO7.out.tc; have := HO7.out.pt; omega)
                  have bc8 := HO7.out.bc.below b78 (by omega)
                  have bz8 := bz.below b78 (by have := HO7.out.tc; have := HO7.out.pt; omega)
                  have slg8 := slg.but2 g4.grow (fun b hb e => by have hb' : g1 = b := (by injection hb); subst hb'; have := (hAG g1 e.symm).2; omega)
                  have ff8 := ff.trans (b78.mono (by have := HO7.out.tc; have := HO7.out.pt; omega))
                  have HH8 : Hid (∀ p ∈ l, HsX [CB] V8 p.1 p.2.hs) := (show ∀ p ∈ l, HsX [CB] V8 p.1 p.2.hs from fun p hp => by
                    have h2 := hho p hp
                    cases As with
                    | none =>
                      have := none_len ows
                      have := List.length_pos_of_mem hp
                      omega
                    | some a =>
                      have h6 := (ows.lt a.block rfl).1
                      exact (h2.but (p := a.block) g4.grow (by simp only [bnd]; omega)).x (fun b hb => by rw [List.mem_singleton.1 hb]; simp only [bnd]; omega))
                  have k368 : V8.cell? ⟨CB, 36, none⟩ = some (.slice As ns cs) := (b78.cell (p := ⟨CB, 36, none⟩) (by show CB < CB + 1; omega)).trans k36
                  have fz8 := bc8.fz 36
                  have HL2 := Lib.hid (And.intro hml hln)
                  have hrl := HO7.out.rl
                  have hc1 := HO7.out.c1
                  have hc2 := HO7.out.c2
                  have hpt := HO7.out.pt
                  have htc := HO7.out.tc
                  have hok5 := HO7.out.ok
                  have hcl5 := HO7.out.cl
                  have HR5 := Lib.hid (And.intro hrl (And.intro hc1 (And.intro hc2 (And.intro hok5 hcl5))))
                  clear hho ows hml hln hvs nw b67 b78 g4 k36 bz slg ff bG HO7 hrl hc1 hc2 hok5 hcl5
                  first | (refine wpP_quiet (v := ?_) rfl (by rfl) ?_ ?_; rotate_left; (· (intro w' hw'; go_simp; try with_reducible rfl)); simp only [Act.put, List.setIfInBounds_toArray, List.set_cons_zero, List.set_cons_succ]) | (refine wpP_skip rfl (by rfl) ?_; simp only [Act.put, List.setIfInBounds_toArray, List.set_cons_zero, List.set_cons_succ])
                  first | (refine wpP_quiet (v := ?_) rfl (by rfl) ?_ ?_; rotate_left; (· (intro w' hw'; go_simp; try with_reducible rfl)); simp only [Act.put, List.setIfInBounds_toArray, List.set_cons_zero, List.set_cons_succ]) | (refine wpP_skip rfl (by rfl) ?_; simp only [Act.put, List.setIfInBounds_toArray, List.set_cons_zero, List.set_cons_succ])
                  refine wpP_one ?_
                  refine wpP_loud rfl (by rfl) ?_
                  intro K hK
                  go_simp
                  refine hK.out _ _ (fun t cs h => h.but (RBut.setC _ _ _ _) (by intro e; injection e with e; omega)) ?_
                  clear hK K
                  try simp only [Act.put, List.setIfInBounds_toArray, List.set_cons_zero, List.set_cons_succ]
                  refine wpP_done ?_
                  have u9 : RBut (some CB) V8 (V8.setCell ⟨CB, 36, none⟩ (.slice A4 (ns + 1) c4)) := RBut.setC _ _ _ _
                  have hxr := HXO.out.root
                  have bc9 : Blk (V8.setCell ⟨CB, 36, none⟩ (.slice A4 (ns + 1) c4)) CB 39 (clF (.slice A4 (ns + 1) c4, { x with suits := x.suits ++ [(⟨(b : Int), gd, c.txs.take m⟩ : SU)] }) ++ rest) := co_store bc8 (by rw [List.length_append, clF_len hxr]; omega) (by rw [put_front _ _ _ _ (by rw [clF_len hxr]; simp), put_suits hxr])
                  generalize V8.setCell ⟨CB, 36, none⟩ (.slice A4 (ns + 1) c4) = V9 at *
                  have bp9 := bp8.but u9 (by intro e; injection e; omega)
                  have bt9 := bt8.but u9 (by intro e; injection e; omega)
                  have bz9 := bz8.but u9 (by intro e; injection e; omega)
                  have o9 := own_but o8 u9 (fun k hk => by injection hk; omega)
                  have slg9 := slg8.but2 u9 (fun b hb e => by injection e with e; have hb' : g1 = b := (by injection hb); omega)
                  have ff9 := ff8.trans (below_but u9 (by omega) ff8.size)
                  have sx9 : SuX [] V9 (.slice A4 (ns + 1) c4) (x.suits ++ [(⟨(b : Int), gd, c.txs.take m⟩ : SU)]) := ⟨A4, ns + 1, c4, l ++ [((.slice (some ⟨g1, o1, none⟩) m c1 : Value), (⟨(b : Int), gd, c.txs.take m⟩ : SU))], rfl, o9.sl, by rw [List.map_append, HL2.out.1]; rfl, by rw [List.length_append, HL2.out.2]; rfl, o9.le.1, fun _ _ h => (by cases h), fun p hp => by
                    rcases List.mem_append.1 hp with h | h
                    · exact ((HH8.out p h).but u9 (by simp)).less (fun _ h => by cases h)
                    · rw [List.mem_singleton.1 h]
                      exact ⟨_, _, _, rfl, slg9, by show (c.txs.take m).length = m; rw [List.length_take]; omega, LE1.out, fun _ _ h => by cases h⟩⟩
                  have hok : CO.ok { c5 with claims := [{ x with suits := x.suits ++ [(⟨(b : Int), gd, c.txs.take m⟩ : SU)] }] } := ⟨HR5.out.2.2.2.1.pre, HR5.out.2.2.2.1.txs, HR5.out.2.2.2.1.n, HR5.out.2.2.2.1.bank, fun y hy => by
                    rw [List.mem_singleton.1 hy]
                    refine ⟨hxr, fun s hs => ?_, by show (x.suits ++ [(⟨(b : Int), gd, c.txs.take m⟩ : SU)]).length ≤ 4096; rw [List.length_append, ← HL2.out.1, List.length_map, HL2.out.2]; simp; omega⟩
                    rcases List.mem_append.1 hs with h | h
                    · exact HXO.out.suits s h
                    · rw [List.mem_singleton.1 h]
                      exact ⟨HGL.out, HHS.out, by show (c.txs.take m).length ≤ 4194304; rw [List.length_take]; omega⟩, by simp⟩
                  have hXF : CoX [] V9 (.agg (coC (.slice (some ⟨T, 0, none⟩) c5.txs.length c5.txs.length) (.slice (some ⟨CB, 0, none⟩) 1 cC) c5).toArray) { c5 with claims := [{ x with suits := x.suits ++ [(⟨(b : Int), gd, c.txs.take m⟩ : SU)] }] } := one_cox (c := { c5 with claims := [{ x with suits := x.suits ++ [(⟨(b : Int), gd, c.txs.take m⟩ : SU)] }] }) hok rfl bt9 bc9 HR5.out.1 HR5.out.2.1 HR5.out.2.2.1 sx9
                  obtain ⟨c9, hc9⟩ : ∃ c9 : CO, { c5 with claims := [{ x with suits := x.suits ++ [(⟨(b : Int), gd, c.txs.take m⟩ : SU)] }] } = c9 := ⟨_, rfl⟩
                  have HE9 : Hid (suedC c x b = c9) := (show _ = _ by
                    rw [← hc9, ← HC5.out]
                    unfold suedC suedX
                    rw [HM.out, HZ.out, HGD.out, Int.toNat_natCast])
                  rw [hc9] at hok hXF
                  have HXF := Lib.hid hXF
                  have HOK := Lib.hid hok
                  have hl9 : c9.pre.length = 32 ∧ c9.bank.length = 8 := ⟨hok.pre, hok.bank⟩
                  have HL9 := Lib.hid hl9
                  have HCC := Lib.hid (HCL5)
                  clear hXF hok hc9 sx9 slg9 o9 bt9 bc9 u9 bp8 bt8 bz8 o8 slg8 ff8 bc8 k368 fz8 HH8
                  have I5 := Lib.hid (info_co (vt := .slice (some ⟨T, 0, none⟩) c5.txs.length c5.txs.length) (vc := .slice (some ⟨CB, 0, none⟩) 1 cC) HCL5.out.1 HCL5.out.2)
                  go_wp2_with (first
                    | (refine wpl_load_fld (by rfl) _ _ rfl w.heap.size 0 rfl (coC (.slice (some ⟨T, 0, none⟩) c5.txs.length c5.txs.length) (.slice (some ⟨CB, 0, none⟩) 1 cC) c5) _ bp9.range Try.underlying30 rfl I5.out ?_))
                  refine (ownC_any _ _ HOK.out V9 HXF.out).mono ?_
                  intro e w6 hro
                  obtain ⟨vt6, vc6, rfl, o6t, o6c, hb6, hfin⟩ := hro.xt HOK.out
                  have hz9 := bz9.lt
                  have hf9 := ff9.size
                  have bz6 := bz9.to hb6
                  have f6 := ff9.trans (hb6.mono ff9.size)
                  have IC6 := Lib.hid (info_co (vt := vt6) (vc := vc6) (c := c9) HL9.out.1 HL9.out.2)
                  have HL6 : Hid ((coC vt6 vc6 c9).length = 43) := Lib.hid (coC_len (c := c9) HL9.out.1 HL9.out.2)
                  clear hro bz9 ff9 HXF
                  go_wp2_with (first
                    | (refine wpl_store_fld (by rfl) _ _ _ rfl (w.heap.size + 1) 0 _ _ (coC vt6 vc6 c9) rfl _ rfl rfl bz6 (by rw [HL6.out]; exact Nat.le_refl _) IC6.out (coC_one o6t o6c) ?_
                       intro w7 bz7 bu7
                       rw [put_all _ _ (by rw [HL6.out]; rfl)] at bz7))
                  refine bodyPost_ret (results_blk2 Try.results13 rfl rfl bz7 Try.underlying30 rfl IC6.out) rfl ?_
                  refine ⟨_, rfl, ?_, f6.trans (below_but bu7 (by omega) f6.size)⟩
                  intro S hS
                  show CoX S w7 _ (suedC c x b)
                  rw [HE9.out]
                  exact hfin (w.heap.size + 1) w7 hz9 bu7 S (fun b hb => by have := hS b hb; omega)
                · have hsz : (suF (.slice (some ⟨g1, o1, none⟩) m c1, (⟨(b : Int), gd, c.txs.take m⟩ : SU))).length = 106 := suF_len HGL.out
                  refine wpP_loud rfl (by rfl) ?_
                  intro K hK
                  go_simp
                  rw [HFS.out _ rfl]
                  refine hK.out _ _ (fun t cs h => h.to ((Below.refl _ _).alloc (Nat.le_refl _) _)) ?_
                  clear hK K
                  try simp only [Act.put, List.setIfInBounds_toArray, List.set_cons_zero, List.set_cons_succ]
                  have nw := Sl.new V6 (suF (.slice (some ⟨g1, o1, none⟩) m c1, ⟨(b : Int), gd, c.txs.take m⟩)).toArray 44 (0, 0) 1 (show _ = 1 * 106 by rw [List.size_toArray, suF_len HGL.out])
                  have b67 : Below V6.heap.size V6 (V6.alloc (.cells (suF (.slice (some ⟨g1, o1, none⟩) m c1, ⟨(b : Int), gd, c.txs.take m⟩)).toArray 44)) := (Below.refl _ _).alloc (Nat.le_refl _) _
                  generalize V6.alloc (.cells (suF (.slice (some ⟨g1, o1, none⟩) m c1, ⟨(b : Int), gd, c.txs.take m⟩)).toArray 44) = V7 at *
                  have k367 : V7.cell? ⟨CB, 36, none⟩ = some (.slice As ns cs) := (b67.cell (p := ⟨CB, 36, none⟩) (by show CB < V6.heap.size; omega)).trans k36
                  have HO7 := Lib.hid (HO.out.to b67)
                  replace bG := bG.to b67
                  replace bz := bz.to b67
                  replace slg := slg.to b67
                  replace ff := ff.trans (b67.mono ff.size)
                  clear HO k36 hsz
                  have k36 := k367
                  clear k367
                  refine wpP_one ?_
                  refine wpP_loud rfl (by rfl) ?_
                  intro K hK
                  go_simp
                  refine hK.out _ _ (fun _ _ h => h) ?_
                  clear hK K
                  try simp only [Act.put, List.setIfInBounds_toArray, List.set_cons_zero, List.set_cons_succ]
                  refine wpP_one ?_
                  obtain ⟨A2, n2, q2, l, hvs, ows, hml, hln, hho⟩ := HO7.out.su
                  obtain ⟨rfl, rfl, rfl⟩ : As = A2 ∧ ns = n2 ∧ cs = q2 := by injection hvs with a b c; exact ⟨a, b, c⟩
                  have hC7 := HO7.out.bc.lt
                  refine wpP_loud rfl (by rfl) ?_
                  intro K hK
                  refine wp_app V7 _ _ _ elS rfl rfl ows rfl nw (by intro u hu; exact suF_one rfl u (by simpa using hu)) (by omega) (by omega) (by omega) ?_
                  intro A4 c4 V8 g4
                  refine hK.out _ _ (fun t cs h => h.but g4.grow (by intro e; have := (hAG G e.symm).2; omega)) ?_
                  clear hK K
                  try simp only [Act.put, List.setIfInBounds_toArray, List.set_cons_zero, List.set_cons_succ]
                  have b78 : Below (CB + 1) V7 V8 := g4.below ows (by omega)
                  have o8 : Own V8 (CB + 1) 44 106 A4 (ns + 1) c4 (rows suF (l ++ [((.slice (some ⟨g1, o1, none⟩) m c1 : Value), (⟨(b : Int), gd, c.txs.take m⟩ : SU))])) := by
                    have := g4.own
                    rw [rows_app, rows_one]
                    simpa using this
                  have bt8 := HO7.out.bt.below b78 (by have := HO7.out.tc; omega)
                  have bp8 := HO7.out.bp.below b78 (by have := HO7.out.tc; have := HO7.out.pt; omega)
                  have bc8 := HO7.out.bc.below b78 (by omega)
                  have bz8 := bz.below b78 (by have := HO7.out.tc; have := HO7.out.pt; omega)
                  have slg8 := slg.but2 g4.grow (fun b hb e => by have hb' : g1 = b := (by injection hb); subst hb'; have := (hAG g1 e.symm).2; omega)
                  have ff8 := ff.trans (b78.mono (by have := HO7.out.tc; have := HO7.out.pt; omega))
                  have HH8 : Hid (∀ p ∈ l, HsX [CB] V8 p.1 p.2.hs) := (show ∀ p ∈ l, HsX [CB] V8 p.1 p.2.hs from fun p hp => by
                    have h2 := hho p hp
                    cases As with
                    | none =>
                      have := none_len ows
                      have := List.length_pos_of_mem hp
                      omega
                    | some a =>
                      have h6 := (ows.lt a.block rfl).1
                      exact (h2.but (p := a.block) g4.grow (by simp only [bnd]; omega)).x (fun b hb => by rw [List.mem_singleton.1 hb]; simp only [bnd]; omega))
                  have k368 : V8.cell? ⟨CB, 36, none⟩ = some (.slice As ns cs) := (b78.cell (p := ⟨CB, 36, none⟩) (by show CB < CB + 1; omega)).trans k36
                  have fz8 := bc8.fz 36
                  have HL2 := Lib.hid (And.intro hml hln)
                  have hrl := HO7.out.rl
                  have hc1 := HO7.out.c1
                  have hc2 := HO7.out.c2
                  have hpt := HO7.out.pt
                  have htc := HO7.out.tc
                  have hok5 := HO7.out.ok
                  have hcl5 := HO7.out.cl
                  have HR5 := Lib.hid (And.intro hrl (And.intro hc1 (And.intro hc2 (And.intro hok5 hcl5))))
                  clear hho ows hml hln hvs nw b67 b78 g4 k36 bz slg ff bG HO7 hrl hc1 hc2 hok5 hcl5
                  first | (refine wpP_quiet (v := ?_) rfl (by rfl) ?_ ?_; rotate_left; (· (intro w' hw'; go_simp; try with_reducible rfl)); simp only [Act.put, List.setIfInBounds_toArray, List.set_cons_zero, List.set_cons_succ]) | (refine wpP_skip rfl (by rfl) ?_; simp only [Act.put, List.setIfInBounds_toArray, List.set_cons_zero, List.set_cons_succ])
                  first | (refine wpP_quiet (v := ?_) rfl (by rfl) ?_ ?_; rotate_left; (· (intro w' hw'; go_simp; try with_reducible rfl)); simp only [Act.put, List.setIfInBounds_toArray, List.set_cons_zero, List.set_cons_succ]) | (refine wpP_skip rfl (by rfl) ?_; simp only [Act.put, List.setIfInBounds_toArray, List.set_cons_zero, List.set_cons_succ])
                  refine wpP_one ?_
                  refine wpP_loud rfl (by rfl) ?_
                  intro K hK
                  go_simp
                  refine hK.out _ _ (fun t cs h => h.but (RBut.setC _ _ _ _) (by intro e; injection e with e; omega)) ?_
                  clear hK K
                  try simp only [Act.put, List.setIfInBounds_toArray, List.set_cons_zero, List.set_cons_succ]
                  refine wpP_done ?_
                  have u9 : RBut (some CB) V8 (V8.setCell ⟨CB, 36, none⟩ (.slice A4 (ns + 1) c4)) := RBut.setC _ _ _ _
                  have hxr := HXO.out.root
                  have bc9 : Blk (V8.setCell ⟨CB, 36, none⟩ (.slice A4 (ns + 1) c4)) CB 39 (clF (.slice A4 (ns + 1) c4, { x with suits := x.suits ++ [(⟨(b : Int), gd, c.txs.take m⟩ : SU)] }) ++ rest) := co_store bc8 (by rw [List.length_append, clF_len hxr]; omega) (by rw [put_front _ _ _ _ (by rw [clF_len hxr]; simp), put_suits hxr])
                  generalize V8.setCell ⟨CB, 36, none⟩ (.slice A4 (ns + 1) c4) = V9 at *
                  have bp9 := bp8.but u9 (by intro e; injection e; omega)
                  have bt9 := bt8.but u9 (by intro e; injection e; omega)
                  have bz9 := bz8.but u9 (by intro e; injection e; omega)
                  have o9 := own_but o8 u9 (fun k hk => by injection hk; omega)
                  have slg9 := slg8.but2 u9 (fun b hb e => by injection e with e; have hb' : g1 = b := (by injection hb); omega)
                  have ff9 := ff8.trans (below_but u9 (by omega) ff8.size)
                  have sx9 : SuX [] V9 (.slice A4 (ns + 1) c4) (x.suits ++ [(⟨(b : Int), gd, c.txs.take m⟩ : SU)]) := ⟨A4, ns + 1, c4, l ++ [((.slice (some ⟨g1, o1, none⟩) m c1 : Value), (⟨(b : Int), gd, c.txs.take m⟩ : SU))], rfl, o9.sl, by rw [List.map_append, HL2.out.1]; rfl, by rw [List.length_append, HL2.out.2]; rfl, o9.le.1, fun _ _ h => (by cases h), fun p hp => by
                    rcases List.mem_append.1 hp with h | h
                    · exact ((HH8.out p h).but u9 (by simp)).less (fun _ h => by cases h)
                    · rw [List.mem_singleton.1 h]
                      exact ⟨_, _, _, rfl, slg9, by show (c.txs.take m).length = m; rw [List.length_take]; omega, LE1.out, fun _ _ h => by cases h⟩⟩
                  have hok : CO.ok { c5 with claims := [{ x with suits := x.suits ++ [(⟨(b : Int), gd, c.txs.take m⟩ : SU)] }] } := ⟨HR5.out.2.2.2.1.pre, HR5.out.2.2.2.1.txs, HR5.out.2.2.2.1.n, HR5.out.2.2.2.1.bank, fun y hy => by
                    rw [List.mem_singleton.1 hy]
                    refine ⟨hxr, fun s hs => ?_, by show (x.suits ++ [(⟨(b : Int), gd, c.txs.take m⟩ : SU)]).length ≤ 4096; rw [List.length_append, ← HL2.out.1, List.length_map, HL2.out.2]; simp; omega⟩
                    rcases List.mem_append.1 hs with h | h
                    · exact HXO.out.suits s h
                    · rw [List.mem_singleton.1 h]
                      exact ⟨HGL.out, HHS.out, by show (c.txs.take m).length ≤ 4194304; rw [List.length_take]; omega⟩, by simp⟩
                  have hXF : CoX [] V9 (.agg (coC (.slice (some ⟨T, 0, none⟩) c5.txs.length c5.txs.length) (.slice (some ⟨CB, 0, none⟩) 1 cC) c5).toArray) { c5 with claims := [{ x with suits := x.suits ++ [(⟨(b : Int), gd, c.txs.take m⟩ : SU)] }] } := one_cox (c := { c5 with claims := [{ x with suits := x.suits ++ [(⟨(b : Int), gd, c.txs.take m⟩ : SU)] }] }) hok rfl bt9 bc9 HR5.out.1 HR5.out.2.1 HR5.out.2.2.1 sx9
                  obtain ⟨c9, hc9⟩ : ∃ c9 : CO, { c5 with claims := [{ x with suits := x.suits ++ [(⟨(b : Int), gd, c.txs.take m⟩ : SU)] }] } = c9 := ⟨_, rfl⟩
                  have HE9 : Hid (suedC c x b = c9) := (show _ = _ by
                    rw [← hc9, ← HC5.out]
                    unfold suedC suedX
                    rw [HM.out, HZ.out, HGD.out, Int.toNat_natCast])
                  rw [hc9] at hok hXF
                  have HXF := Lib.hid hXF
                  have HOK := Lib.hid hok
                  have hl9 : c9.pre.length = 32 ∧ c9.bank.length = 8 := ⟨hok.pre, hok.bank⟩
                  have HL9 := Lib.hid hl9
                  have HCC := Lib.hid (HCL5)
                  clear hXF hok hc9 sx9 slg9 o9 bt9 bc9 u9 bp8 bt8 bz8 o8 slg8 ff8 bc8 k368 fz8 HH8
                  have I5 := Lib.hid (info_co (vt := .slice (some ⟨T, 0, none⟩) c5.txs.length c5.txs.length) (vc := .slice (some ⟨CB, 0, none⟩) 1 cC) HCL5.out.1 HCL5.out.2)
                  go_wp2_with (first
                    | (refine wpl_load_fld (by rfl) _ _ rfl w.heap.size 0 rfl (coC (.slice (some ⟨T, 0, none⟩) c5.txs.length c5.txs.length) (.slice (some ⟨CB, 0, none⟩) 1 cC) c5) _ bp9.range Try.underlying30 rfl I5.out ?_))
                  refine (ownC_any _ _ HOK.out V9 HXF.out).mono ?_
                  intro e w6 hro
                  obtain ⟨vt6, vc6, rfl, o6t, o6c, hb6, hfin⟩ := hro.xt HOK.out
                  have hz9 := bz9.lt
                  have hf9 := ff9.size
                  have bz6 := bz9.to hb6
                  have f6 := ff9.trans (hb6.mono ff9.size)
                  have IC6 := Lib.hid (info_co (vt := vt6) (vc := vc6) (c := c9) HL9.out.1 HL9.out.2)
                  have HL6 : Hid ((coC vt6 vc6 c9).length = 43) := Lib.hid (coC_len (c := c9) HL9.out.1 HL9.out.2)
                  clear hro bz9 ff9 HXF
                  go_wp2_with (first
                    | (refine wpl_store_fld (by rfl) _ _ _ rfl (w.heap.size + 1) 0 _ _ (coC vt6 vc6 c9) rfl _ rfl rfl bz6 (by rw [HL6.out]; exact Nat.le_refl _) IC6.out (coC_one o6t o6c) ?_
                       intro w7 bz7 bu7
                       rw [put_all _ _ (by rw [HL6.out]; rfl)] at bz7))
                  refine bodyPost_ret (results_blk2 Try.results13 rfl rfl bz7 Try.underlying30 rfl IC6.out) rfl ?_
                  refine ⟨_, rfl, ?_, f6.trans (below_but bu7 (by omega) f6.size)⟩
                  intro S hS
                  show CoX S w7 _ (suedC c x b)
                  rw [HE9.out]
                  exact hfin (w.heap.size + 1) w7 hz9 bu7 S (fun b hb => by have := hS b hb; omega)
      · obtain rfl : r = (c, 18) := by rw [← HR.out]; unfold sueR; rw [if_neg (by simpa using hp0), if_neg (by simp), if_pos (.inl hst)]
        have k3 : w2.cell? ⟨CB, 3, none⟩ = some (.int .i64 x.st) := HO.out.cst
        have t0 : (x.st == 1) = false := by simpa using hst
        have t2 : (x.st != 1) = true := by simpa using hst
        go_wp2_with fail
        refine wp_region_P (.take 0 (.take 1 (.take 2 (.take 3 (.take 4 (.take 5 (.take 6 (.take 7 (.take 8 (.take 9 (.take 10 (.take 11 (.take 12 (.take 13 (.take 14 (.take 15 .done)))))))))))))))) ((fun a b => a = b)) (by kernel_rfl) (by kernel_rfl) (by kernel_rfl) (by decide +kernel) (fun _ => rfl) (fun _ _ _ h k => h.trans k) (by intro d v c a w h; first | (cases d <;> exact h) | exact absurd h.1 (by simp)) ?_
        have d3 : w2.drew.cell? ⟨CB, 3, none⟩ = some (.int .i64 x.st) := k3
        have d2 : w2.drew.cell? ⟨CB, 2, none⟩ = some (.int .i64 x.at_) := HO.out.cat
        have d0 : w2.drew.cell? ⟨w.heap.size, 0, none⟩ = some (.int .i64 c.now) := HO.out.k0
        have bzd : Blk w2.drew (w.heap.size + 1) 30 zeroCC := bz
        have HOD := Lib.hid HO.out.drew
        have ffd := ff.drew
        clear k3 kb k42 HO bz ff
        generalize w2.drew = V0 at *
        have HO := HOD
        have bz := bzd
        have ff := ffd
        clear HOD bzd ffd
        first | (refine wpP_quiet (v := ?_) rfl (by rfl) ?_ ?_; rotate_left; (· (intro w' hw'; subst hw'; go_simp; try with_reducible rfl)); simp only [Act.put, List.setIfInBounds_toArray, List.set_cons_zero, List.set_cons_succ]) | (refine wpP_skip rfl (by rfl) ?_; simp only [Act.put, List.setIfInBounds_toArray, List.set_cons_zero, List.set_cons_succ])
        first | (refine wpP_quiet (v := ?_) rfl (by rfl) ?_ ?_; rotate_left; (· (intro w' hw'; subst hw'; go_simp; try with_reducible rfl)); simp only [Act.put, List.setIfInBounds_toArray, List.set_cons_zero, List.set_cons_succ]) | (refine wpP_skip rfl (by rfl) ?_; simp only [Act.put, List.setIfInBounds_toArray, List.set_cons_zero, List.set_cons_succ])
        first | (refine wpP_quiet (v := ?_) rfl (by rfl) ?_ ?_; rotate_left; (· (intro w' hw'; subst hw'; go_simp; try with_reducible rfl)); simp only [Act.put, List.setIfInBounds_toArray, List.set_cons_zero, List.set_cons_succ]) | (refine wpP_skip rfl (by rfl) ?_; simp only [Act.put, List.setIfInBounds_toArray, List.set_cons_zero, List.set_cons_succ])
        first | (refine wpP_quiet (v := ?_) rfl (by rfl) ?_ ?_; rotate_left; (· (intro w' hw'; subst hw'; go_simp; try with_reducible rfl)); simp only [Act.put, List.setIfInBounds_toArray, List.set_cons_zero, List.set_cons_succ]) | (refine wpP_skip rfl (by rfl) ?_; simp only [Act.put, List.setIfInBounds_toArray, List.set_cons_zero, List.set_cons_succ])
        first | (refine wpP_quiet (v := ?_) rfl (by rfl) ?_ ?_; rotate_left; (· (intro w' hw'; subst hw'; go_simp; try with_reducible rfl)); simp only [Act.put, List.setIfInBounds_toArray, List.set_cons_zero, List.set_cons_succ]) | (refine wpP_skip rfl (by rfl) ?_; simp only [Act.put, List.setIfInBounds_toArray, List.set_cons_zero, List.set_cons_succ])
        first | (refine wpP_quiet (v := ?_) rfl (by rfl) ?_ ?_; rotate_left; (· (intro w' hw'; subst hw'; go_simp; try with_reducible rfl)); simp only [Act.put, List.setIfInBounds_toArray, List.set_cons_zero, List.set_cons_succ]) | (refine wpP_skip rfl (by rfl) ?_; simp only [Act.put, List.setIfInBounds_toArray, List.set_cons_zero, List.set_cons_succ])
        first | (refine wpP_quiet (v := ?_) rfl (by rfl) ?_ ?_; rotate_left; (· (intro w' hw'; subst hw'; go_simp; try with_reducible rfl)); simp only [Act.put, List.setIfInBounds_toArray, List.set_cons_zero, List.set_cons_succ]) | (refine wpP_skip rfl (by rfl) ?_; simp only [Act.put, List.setIfInBounds_toArray, List.set_cons_zero, List.set_cons_succ])
        first | (refine wpP_quiet (v := ?_) rfl (by rfl) ?_ ?_; rotate_left; (· (intro w' hw'; subst hw'; go_simp; try with_reducible rfl)); simp only [Act.put, List.setIfInBounds_toArray, List.set_cons_zero, List.set_cons_succ]) | (refine wpP_skip rfl (by rfl) ?_; simp only [Act.put, List.setIfInBounds_toArray, List.set_cons_zero, List.set_cons_succ])
        first | (refine wpP_quiet (v := ?_) rfl (by rfl) ?_ ?_; rotate_left; (· (intro w' hw'; subst hw'; go_simp; try with_reducible rfl)); simp only [Act.put, List.setIfInBounds_toArray, List.set_cons_zero, List.set_cons_succ]) | (refine wpP_skip rfl (by rfl) ?_; simp only [Act.put, List.setIfInBounds_toArray, List.set_cons_zero, List.set_cons_succ])
        first | (refine wpP_quiet (v := ?_) rfl (by rfl) ?_ ?_; rotate_left; (· (intro w' hw'; subst hw'; go_simp; try with_reducible rfl)); simp only [Act.put, List.setIfInBounds_toArray, List.set_cons_zero, List.set_cons_succ]) | (refine wpP_skip rfl (by rfl) ?_; simp only [Act.put, List.setIfInBounds_toArray, List.set_cons_zero, List.set_cons_succ])
        first | (refine wpP_quiet (v := ?_) rfl (by rfl) ?_ ?_; rotate_left; (· (intro w' hw'; subst hw'; go_simp; try with_reducible rfl)); simp only [Act.put, List.setIfInBounds_toArray, List.set_cons_zero, List.set_cons_succ]) | (refine wpP_skip rfl (by rfl) ?_; simp only [Act.put, List.setIfInBounds_toArray, List.set_cons_zero, List.set_cons_succ])
        first | (refine wpP_quiet (v := ?_) rfl (by rfl) ?_ ?_; rotate_left; (· (intro w' hw'; subst hw'; go_simp; try with_reducible rfl)); simp only [Act.put, List.setIfInBounds_toArray, List.set_cons_zero, List.set_cons_succ]) | (refine wpP_skip rfl (by rfl) ?_; simp only [Act.put, List.setIfInBounds_toArray, List.set_cons_zero, List.set_cons_succ])
        first | (refine wpP_quiet (v := ?_) rfl (by rfl) ?_ ?_; rotate_left; (· (intro w' hw'; subst hw'; go_simp; try with_reducible rfl)); simp only [Act.put, List.setIfInBounds_toArray, List.set_cons_zero, List.set_cons_succ]) | (refine wpP_skip rfl (by rfl) ?_; simp only [Act.put, List.setIfInBounds_toArray, List.set_cons_zero, List.set_cons_succ])
        first | (refine wpP_quiet (v := ?_) rfl (by rfl) ?_ ?_; rotate_left; (· (intro w' hw'; subst hw'; go_simp; try with_reducible rfl)); simp only [Act.put, List.setIfInBounds_toArray, List.set_cons_zero, List.set_cons_succ]) | (refine wpP_skip rfl (by rfl) ?_; simp only [Act.put, List.setIfInBounds_toArray, List.set_cons_zero, List.set_cons_succ])
        first | (refine wpP_quiet (v := ?_) rfl (by rfl) ?_ ?_; rotate_left; (· (intro w' hw'; subst hw'; go_simp; try with_reducible rfl)); simp only [Act.put, List.setIfInBounds_toArray, List.set_cons_zero, List.set_cons_succ]) | (refine wpP_skip rfl (by rfl) ?_; simp only [Act.put, List.setIfInBounds_toArray, List.set_cons_zero, List.set_cons_succ])
        first | (refine wpP_quiet (v := ?_) rfl (by rfl) ?_ ?_; rotate_left; (· (intro w' hw'; subst hw'; go_simp; try with_reducible rfl)); simp only [Act.put, List.setIfInBounds_toArray, List.set_cons_zero, List.set_cons_succ]) | (refine wpP_skip rfl (by rfl) ?_; simp only [Act.put, List.setIfInBounds_toArray, List.set_cons_zero, List.set_cons_succ])
        refine wpP_done ?_
        go_wp2_with (first
          | (refine wpl_load_fld (by rfl) _ _ rfl w.heap.size 0 rfl (coC (.slice (some ⟨T, 0, none⟩) c.txs.length c.txs.length) (.slice (some ⟨CB, 0, none⟩) 1 cC) c) _ HO.out.bp.range Try.underlying30 rfl HO.out.info ?_)
          | (refine wpl_store_fld (by rfl) _ _ _ rfl (w.heap.size + 1) 0 _ _ (coC (.slice (some ⟨T, 0, none⟩) c.txs.length c.txs.length) (.slice (some ⟨CB, 0, none⟩) 1 cC) c) rfl _ rfl rfl bz (by rw [HO.out.clen]; exact Nat.le_refl _) HO.out.info (coC_one rfl rfl) ?_
             intro w6 bz6 bu6
             rw [put_all _ _ (by rw [HO.out.clen]; rfl)] at bz6))
        refine bodyPost_ret (results_blk2 Try.results13 rfl rfl bz6 Try.underlying30 rfl HO.out.info) rfl ?_
        exact ⟨_, rfl, fun S hS => ((HO.out.cox (S := (w.heap.size + 1) :: S) (fun b hb => (List.mem_cons.1 hb).elim (fun h => by omega) (fun h => by have := hS b h; omega))).but bu6 (by simp)).less (fun b hb => List.mem_cons_of_mem _ hb), ff.trans (below_but bu6 (by omega) ff.size)⟩
    · obtain rfl : r = (c, 2) := by rw [← HR.out]; unfold sueR; rw [if_neg (by simpa using hp0), if_pos hk]
      by_cases hk0 : k < 0
      · clear kb
        go_wp2_with (first
          | (refine wpl_load_fld (by rfl) _ _ rfl w.heap.size 0 rfl (coC (.slice (some ⟨T, 0, none⟩) c.txs.length c.txs.length) (.slice (some ⟨CB, 0, none⟩) 1 cC) c) _ HO.out.bp.range Try.underlying30 rfl HO.out.info ?_)
          | (refine wpl_store_fld (by rfl) _ _ _ rfl (w.heap.size + 1) 0 _ _ (coC (.slice (some ⟨T, 0, none⟩) c.txs.length c.txs.length) (.slice (some ⟨CB, 0, none⟩) 1 cC) c) rfl _ rfl rfl bz (by rw [HO.out.clen]; exact Nat.le_refl _) HO.out.info (coC_one rfl rfl) ?_
             intro w6 bz6 bu6
             rw [put_all _ _ (by rw [HO.out.clen]; rfl)] at bz6))
        refine bodyPost_ret (results_blk2 Try.results13 rfl rfl bz6 Try.underlying30 rfl HO.out.info) rfl ?_
        exact ⟨_, rfl, fun S hS => ((HO.out.cox (S := (w.heap.size + 1) :: S) (fun b hb => (List.mem_cons.1 hb).elim (fun h => by omega) (fun h => by have := hS b h; omega))).but bu6 (by simp)).less (fun b hb => List.mem_cons_of_mem _ hb), ff.trans (below_but bu6 (by omega) ff.size)⟩
      · have hk1 : (1 : Int) ≤ k := by omega
        clear kb
        go_wp2_with (first
          | (refine wpl_load_fld (by rfl) _ _ rfl w.heap.size 0 rfl (coC (.slice (some ⟨T, 0, none⟩) c.txs.length c.txs.length) (.slice (some ⟨CB, 0, none⟩) 1 cC) c) _ HO.out.bp.range Try.underlying30 rfl HO.out.info ?_)
          | (refine wpl_store_fld (by rfl) _ _ _ rfl (w.heap.size + 1) 0 _ _ (coC (.slice (some ⟨T, 0, none⟩) c.txs.length c.txs.length) (.slice (some ⟨CB, 0, none⟩) 1 cC) c) rfl _ rfl rfl bz (by rw [HO.out.clen]; exact Nat.le_refl _) HO.out.info (coC_one rfl rfl) ?_
             intro w6 bz6 bu6
             rw [put_all _ _ (by rw [HO.out.clen]; rfl)] at bz6))
        refine bodyPost_ret (results_blk2 Try.results13 rfl rfl bz6 Try.underlying30 rfl HO.out.info) rfl ?_
        exact ⟨_, rfl, fun S hS => ((HO.out.cox (S := (w.heap.size + 1) :: S) (fun b hb => (List.mem_cons.1 hb).elim (fun h => by omega) (fun h => by have := hS b h; omega))).but bu6 (by simp)).less (fun b hb => List.mem_cons_of_mem _ hb), ff.trans (below_but bu6 (by omega) ff.size)⟩
  · obtain rfl : r = (c, 1) := by rw [← HR.out]; unfold sueR; rw [if_pos (show ¬ (0 ≤ i ∧ i < 8) from hp)]
    refine (party_no _ w2 hp).mono ?_
    rintro e w' ⟨rfl, rfl⟩
    go_wp2_with (first
      | (refine wpl_load_fld (by rfl) _ _ rfl w.heap.size 0 rfl (coC (.slice (some ⟨T, 0, none⟩) c.txs.length c.txs.length) (.slice (some ⟨CB, 0, none⟩) 1 cC) c) _ HO.out.bp.range Try.underlying30 rfl HO.out.info ?_)
      | (refine wpl_store_fld (by rfl) _ _ _ rfl (w.heap.size + 1) 0 _ _ (coC (.slice (some ⟨T, 0, none⟩) c.txs.length c.txs.length) (.slice (some ⟨CB, 0, none⟩) 1 cC) c) rfl _ rfl rfl bz (by rw [HO.out.clen]; exact Nat.le_refl _) HO.out.info (coC_one rfl rfl) ?_
         intro w6 bz6 bu6
         rw [put_all _ _ (by rw [HO.out.clen]; rfl)] at bz6))
    refine bodyPost_ret (results_blk2 Try.results13 rfl rfl bz6 Try.underlying30 rfl HO.out.info) rfl ?_
    exact ⟨_, rfl, fun S hS => ((HO.out.cox (S := (w.heap.size + 1) :: S) (fun b hb => (List.mem_cons.1 hb).elim (fun h => by omega) (fun h => by have := hS b h; omega))).but bu6 (by simp)).less (fun b hb => List.mem_cons_of_mem _ hb), ff.trans (below_but bu6 (by omega) ff.size)⟩
end Go.Proofs.Ytdopgooglicaiaa
