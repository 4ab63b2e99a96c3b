/- The texts of this claim, part G: words, plain laws, walks. -/
import Derived.Test.YtakebmpnbdlcoaaPartF
import Derived.Test.YtakebmpnbdlcoaaPartE
/- Walks: the document's leaves of a state, its root. -/
set_option linter.unusedSimpArgs false
set_option linter.unusedVariables false
namespace Go.Proofs.Ytakebmpnbdlcoaa
open Go.RowKit
set_option maxRecDepth 100000
theorem fold_take {s : List Acc} {q : Nat} {x : Acc} {l : List (List UInt8)} (h : s[q]? = some x) : (s.take (q + 1)).foldl setL l = setL ((s.take q).foldl setL l) x := by
  rw [List.take_add_one, h, List.foldl_append]
  rfl
theorem own_of_row {w : World} {g : Nat} {e : TypeId} {size n c B : Nat} {xs rest : List Value} (bk : Blk w g e (xs ++ rest)) (hx : xs.length = n * size) (hl : (xs ++ rest).length = c * size) (hB : B ≤ g) (hnc : n ≤ c) (hc : c ≤ maxLen) : Own w B e size (some ⟨g, 0, none⟩) n c xs :=
  ⟨hx, .inr ⟨g, c, (xs ++ rest).toArray, rfl, hB, bk, hnc, hc, by simpa using hl, by simp [← hx]⟩⟩
set_option maxRecDepth 100000 in
set_option maxHeartbeats 4000000 in
theorem leaves_any (A : Option Addr) (n c : Nat) (s : List Acc) (w : World) (sl : Sl w 4 A n (A4 s)) (hlen : s.length = n) (hn : n ≤ 1099511627776) (hwf : ∀ x ∈ s, x.wf) :
    Calls Try.prog 47 #[.slice A n c] w (RSl w 27 32 (H8 (leavesL s))) := by
  obtain ⟨i, hi, hz0, hz1, hz2⟩ := info_parts (P := Try.prog) (e := 27) (z := .agg #[.int .u8 0, .int .u8 0, .int .u8 0, .int .u8 0, .int .u8 0, .int .u8 0, .int .u8 0, .int .u8 0, .int .u8 0, .int .u8 0, .int .u8 0, .int .u8 0, .int .u8 0, .int .u8 0, .int .u8 0, .int .u8 0, .int .u8 0, .int .u8 0, .int .u8 0, .int .u8 0, .int .u8 0, .int .u8 0, .int .u8 0, .int .u8 0, .int .u8 0, .int .u8 0, .int .u8 0, .int .u8 0, .int .u8 0, .int .u8 0, .int .u8 0, .int .u8 0]) (size := 32) (bytes := 32) (by kernel_rfl)
  have hi' := Lib.hid hi
  have hz0' := Lib.hid hz0
  have hz1' := Lib.hid hz1
  have hz2' := Lib.hid hz2
  have HLN := Lib.hid hlen
  have HWF := Lib.hid hwf
  clear hi hz0 hz1 hz2 hlen hwf
  go_enter Try.func47, Try.ntmps47
  go_wp2_with (first
    | (at_make
       refine wpList_make_full _ rfl _ _ _ rfl w.heap.size _ i _ 32 Try.underlying52 hi'.out hz0'.out hz1'.out _ _ 256 256 256 rfl rfl rfl rfl (by rw [hz2'.out]; decide) (by decide) (Nat.le_refl _) ?_
       intro w1 ho1 hg1))
  rw [rep_made] at ho1
  have ho : Own w1 w.heap.size 27 32 (some ⟨w.heap.size, 0, none⟩) 256 256 (H8 (List.replicate 256 zero32)) := ho1
  have hb : Below w.heap.size w w1 := ⟨hg1.os, hg1.tape, hg1.output, hg1.size, fun k hk => hg1.block k hk (by simp)⟩
  clear ho1 hg1 hi' hz0' hz1' hz2'
  obtain ⟨g, rest, hge, hg, bk, hrl⟩ := own_row ho (by decide)
  have hgw : g = w.heap.size := by injection hge with h; injection h with h; exact h.symm
  subst hgw
  have HRL := Lib.hid hrl
  have sl1 := sl.to hb
  have hg1 := bk.lt
  clear ho hge hg hrl
  go_loopw [4] (fun k wr => ∃ q : Nat, k = .int .i64 (q : Int) ∧ q ≤ n ∧ Blk wr w.heap.size 27 (H8 ((s.take q).foldl setL (List.replicate 256 zero32)) ++ rest) ∧ RBut (some w.heap.size) w1 wr) (fun k _ => n - (intOf k).toNat)
  case atStart => exact ⟨0, rfl, Nat.zero_le _, bk, RBut.refl_ _ _⟩
  case round =>
    clear bk
    obtain ⟨q, rfl, hq, bk, hbu⟩ := hrel
    have HCL : Hid (((s.take q).foldl setL (List.replicate 256 zero32)).length = 256) := (show _ = _ by rw [fold_len, List.length_replicate])
    have HCA : Hid (∀ x ∈ (s.take q).foldl setL (List.replicate 256 zero32), x.length = 32) := fold_all _ _ (by intro x hx; rw [List.eq_of_mem_replicate hx]; rfl)
    have hsz := hbu.size
    by_cases hlt : q < n
    · have t1 : (q : Int) < (n : Int) := by omega
      obtain ⟨x, hx⟩ : ∃ x, s[q]? = some x := ⟨_, List.getElem?_eq_getElem (by rw [HLN.out]; exact hlt)⟩
      have hxw := HWF.out x (List.mem_of_getElem? hx)
      have HFT := Lib.hid (fold_take (l := List.replicate 256 zero32) hx)
      obtain ⟨b, o, rfl, hbb⟩ := sl.some_ (by omega)
      have slr : Sl wr 4 (some ⟨b, o, none⟩) n (A4 s) := sl1.but hbu (by intro e; injection e; omega)
      have cx := slr.id4 q x hx
      have rx := slr.range4 q x hx
      have HX := Lib.hid hx
      clear hx
      generalize (s.take q).foldl setL (List.replicate 256 zero32) = cur at *
      by_cases hin : 0 ≤ x.id ∧ x.id < 256
      · obtain ⟨k, hk⟩ : ∃ k : Nat, x.id = (k : Int) := ⟨x.id.toNat, by omega⟩
        have hk256 : k < 256 := by omega
        have HS : Hid (setL cur x = cur.set k (leafS x)) := (show _ = _ by unfold setL; rw [if_pos hin, hk]; rfl)
        have HXW := Lib.hid hxw
        have HK := Lib.hid hk
        rw [hk] at cx
        have i1 : 0 ≤ (k : Int) := by omega
        have i2 : (k : Int) < 256 := by omega
        have HP := Lib.hid (put_H8 cur rest k (leafS x) HCA.out (leafS_len x) (by rw [HCL.out]; exact hk256))
        have HLEN : Hid (k * 32 + 32 ≤ (H8 cur ++ rest).length) := (show _ ≤ _ by rw [List.length_append, H8_len cur HCA.out, HCL.out]; omega)
        clear hin hxw hk
        go_wp2_with fail
        refine wp_region_C [(0, true), (1, true), (2, true), (3, true), (4, true), (5, true), (6, true), (7, true), (8, true), (9, true), (10, false), (11, false), (12, false)] (RBut (some w.heap.size)) (by kernel_rfl) (by kernel_rfl) (by kernel_rfl) (by decide) (RBut.refl_ _) (RBut.trans_ _) (by intro d v c a w h; cases d <;> exact h) ?_
        have bk' : Blk wr.drew w.heap.size 27 (H8 cur ++ rest) := bk
        have slv : Sl wr.drew 4 (some ⟨b, o, none⟩) n (A4 s) := slr.drew
        have hbu' : RBut (some w.heap.size) w1 wr.drew := RBut.trans_ _ _ _ _ hbu (RBut.of_below (Below.refl _ _).drew)
        have hne : some b ≠ some w.heap.size := by intro e; injection e; omega
        have hVs : wr.heap.size = wr.drew.heap.size := rfl
        rw [hVs] at hsz
        clear bk slr hbu cx rx hVs
        generalize wr.drew = V at *
        have cx : ∀ w', RBut (some w.heap.size) V w' → w'.cell? ⟨b, o + q * 4, none⟩ = some (.int .i64 (k : Int)) := fun w' h => by rw [← HK.out]; exact (slv.but h hne).id4 q x HX.out
        repeat (first | (refine wpC_quiet (v := ?_) rfl (by rfl) ?_ ?_; rotate_left; (· (intro w' hw'; go_simp; try with_reducible rfl)); simp only [Act.put, List.setIfInBounds_toArray, List.set_cons_zero, List.set_cons_succ]) | (refine wpC_val (v := ?_) (RBut.refl_ _) rfl (by rfl) ?_ ?_; rotate_left; (· (go_simp; try with_reducible rfl)); simp only [Act.put, List.setIfInBounds_toArray, List.set_cons_zero, List.set_cons_succ]) | (refine wpC_skip rfl (by rfl) ?_; simp only [Act.put, List.setIfInBounds_toArray, List.set_cons_zero, List.set_cons_succ]) | (refine wpC_skip' (RBut.refl_ _) rfl (by rfl) ?_; simp only [Act.put, List.setIfInBounds_toArray, List.set_cons_zero, List.set_cons_succ]))
        refine wpC_load rfl (by rfl) _ _ rfl b (o + q * 4) rfl (accC x) _ (fun w' h => (slv.but h hne).range4 q x HX.out) Try.underlying23 rfl info_acc ?_
        simp only [Act.put, List.setIfInBounds_toArray, List.set_cons_zero, List.set_cons_succ]
        clear cx
        (refine wpC_loud rfl (by rfl) ?_; intro K hK; go_simp)
        refine (refLeaf_any x HXW.out _).mono ?_
        rintro e V2 ⟨rfl, h2⟩
        have bk2 := bk'.to h2
        have hV2 := h2.size
        unfold hv
        (refine hK.out _ _ (RBut.of_below h2) ?_; clear hK K; try simp only [Act.put, List.setIfInBounds_toArray, List.set_cons_zero, List.set_cons_succ])
        repeat (first | (refine wpC_quiet (v := ?_) rfl (by rfl) ?_ ?_; rotate_left; (· (intro w' hw'; go_simp; try with_reducible rfl)); simp only [Act.put, List.setIfInBounds_toArray, List.set_cons_zero, List.set_cons_succ]) | (refine wpC_val (v := ?_) (RBut.refl_ _) rfl (by rfl) ?_ ?_; rotate_left; (· (go_simp; try with_reducible rfl)); simp only [Act.put, List.setIfInBounds_toArray, List.set_cons_zero, List.set_cons_succ]) | (refine wpC_skip rfl (by rfl) ?_; simp only [Act.put, List.setIfInBounds_toArray, List.set_cons_zero, List.set_cons_succ]) | (refine wpC_skip' (RBut.refl_ _) rfl (by rfl) ?_; simp only [Act.put, List.setIfInBounds_toArray, List.set_cons_zero, List.set_cons_succ]))
        refine wpC_store_fld rfl (by rfl) _ _ _ rfl w.heap.size (k * 32) _ _ (B8 (leafS x)) rfl _ rfl rfl bk2 (by rw [B8_len, leafS_len]; exact HLEN.out) (info_hash (leafS_len x)) (B8_one _) (fun _ h => h) ?_
        intro V3 bk3 bu3
        rw [HP.out] at bk3
        have hbu3 := RBut.trans_ _ _ _ _ hbu' (RBut.trans_ _ _ _ _ (RBut.of_below h2) bu3)
        simp only [Act.put, List.setIfInBounds_toArray, List.set_cons_zero, List.set_cons_succ]
        refine wpC_nil ?_
        go_wp2_with fail
        go_roundw
        case rel => exact ⟨q + 1, by go_num, by omega, by rw [HFT.out, HS.out]; exact bk3, hbu3⟩
        case measure => simp [intOf]; omega
      · have HS : Hid (setL cur x = cur) := (show _ = _ by unfold setL; rw [if_neg hin])
        rw [HS.out] at HFT
        have hc : x.id < 0 ∨ 0 ≤ x.id ∧ ¬ x.id < 256 := by omega
        clear hin
        rcases hc with h1 | ⟨h1, h2⟩
        all_goals
          go_wp2_with fail
          go_roundw
          case rel => exact ⟨q + 1, by go_num, by omega, by rw [HFT.out]; exact bk, hbu⟩
          case measure => simp [intOf]; omega
    · have t1 : ¬ (q : Int) < (n : Int) := by omega
      go_wp2_with fail
      go_ret
      have e : s.take q = s := List.take_of_length_le (by rw [HLN.out]; omega)
      rw [e] at bk HCL HCA
      change Blk wr _ _ (H8 (leavesL s) ++ rest) at bk
      have h1 := HRL.out
      rw [List.length_append, H8_len _ (by intro x hx; rw [List.eq_of_mem_replicate hx]; rfl), List.length_replicate] at h1
      refine RSl.mk (own_of_row bk (by rw [H8_len _ (leavesL_all s), leavesL_len]) ?_ (Nat.le_refl _) (Nat.le_refl _) (by decide)) (hb.trans ?_)
      · rw [List.length_append, H8_len _ (leavesL_all s), leavesL_len]
        exact h1
      · exact below_but hbu (Nat.le_refl _) hb.size
end Go.Proofs.Ytakebmpnbdlcoaa
/- Walks: tree.grow: all sums that are not noughts. -/
set_option linter.unusedSimpArgs false
set_option linter.unusedVariables false
namespace Go.Proofs.Ytakebmpnbdlcoaa
open Go.RowKit
set_option maxRecDepth 100000
open Go.Maps (Keyed)
/-- all leaves of some accounts, as a function of places -/
def rowF (l : List (List UInt8)) (x : Nat) : List UInt8 := l.getD x zero32
theorem rep_zero : List.replicate 32 (0 : UInt8) = zero32 := rfl
theorem rowF_start : rowF (List.replicate 256 zero32) = fun _ => List.replicate 32 0 := by
  funext x
  unfold rowF
  rw [List.getD_eq_getElem?_getD, List.getElem?_replicate]
  split <;> rfl
theorem rowF_set (l : List (List UInt8)) (k : Nat) (x : List UInt8) (h : k < l.length) : (fun y => if y = k then x else rowF l y) = rowF (l.set k x) := by
  funext y
  unfold rowF
  rw [List.getD_eq_getElem?_getD, List.getD_eq_getElem?_getD, List.getElem?_set]
  by_cases hy : y = k
  · subst hy
    rw [if_pos rfl, if_pos rfl, if_pos h]
    rfl
  · rw [if_neg hy, if_neg (Ne.symm hy)]
/-- all sums of the levels below lv -/
def levM (L : List (List UInt8)) (lv : Nat) (p : Nat × Nat) : List UInt8 := if p.1 < lv then levF L p.1 p.2 else zero32
/-- .. and some of level lv -/
def midM (L : List (List UInt8)) (lv : Nat) (g : Nat → List UInt8) (p : Nat × Nat) : List UInt8 := if p.1 < lv then levF L p.1 p.2 else if p.1 = lv then g p.2 else zero32
theorem levM_zero (L : List (List UInt8)) : levM L 0 = fun _ => List.replicate 32 0 := by
  funext p
  unfold levM
  rw [if_neg (by omega)]
  rfl
theorem midM_start (L : List (List UInt8)) (lv : Nat) : levM L lv = midM L lv (fun _ => zero32) := by
  funext p
  unfold levM midM
  split
  · rfl
  · split <;> rfl
theorem midM_end (L : List (List UInt8)) (lv : Nat) : midM L lv (levF L lv) = levM L (lv + 1) := by
  funext p
  unfold levM midM
  by_cases h : p.1 < lv
  · rw [if_pos h, if_pos (by omega)]
  · rw [if_neg h]
    by_cases h2 : p.1 = lv
    · rw [if_pos h2, if_pos (by omega), h2]
    · rw [if_neg h2, if_neg (by omega)]
theorem midM_put (L : List (List UInt8)) (lv x : Nat) (g f : Nat → List UInt8) : (fun y => if y = (lv, x) then f x else midM L lv g y) = midM L lv (fun c => if c = x then f c else g c) := by
  funext p
  obtain ⟨a, c⟩ := p
  unfold midM
  simp only [Prod.mk.injEq]
  by_cases h : a = lv
  · subst h
    by_cases hc : c = x
    · subst hc
      simp
    · simp [hc]
  · simp [h]
/-- the rows, one level after another -/
def rowL (L : List (List UInt8)) : Nat → Nat → List UInt8
  | 0 => levF L 0
  | k + 1 => upF (rowL L k)
theorem rowL_lev (L : List (List UInt8)) (hL : L.length = 256) : ∀ lv, lv ≤ 8 → rowL L lv = levF L lv
  | 0, _ => rfl
  | k + 1, h => by
    show upF (rowL L k) = _
    rw [rowL_lev L hL k (by omega), levF_up L k (7 - k) (by rw [hL, show k + (7 - k) + 1 = 8 from by omega])]
theorem Row.none {w : World} {b n : Nat} {D : DataW Unit} {f : Nat → List UInt8} {N c : Nat} (h : Row w b n D f N) (hc : c < 9223372036854775808) (hn : ¬ Maps.has D (.int .i64 (c : Int)) = true) : f c = zero32 := by
  have h1 := h.1.2 c _ (keyOf_ik hc)
  rw [Maps.atKey_of_not_has (by simpa using hn)] at h1
  unfold Z32d at h1
  injection h1 with h1
  injection h1 with h1
  exact h1.symm
theorem levF_far (L : List (List UInt8)) (lv c : Nat) (hL : L.length = 256) (hl : lv ≤ 8) (hc : 256 ≤ c) : levF L lv c = zero32 := by
  have hlen := lev_len lv (8 - lv) L (by rw [hL, show lv + (8 - lv) = 8 from by omega])
  have h2 : 2 ^ (8 - lv) ≤ 256 := by
    have := Nat.pow_le_pow_right (show 0 < 2 by omega) (show 8 - lv ≤ 8 by omega)
    simpa using this
  unfold levF
  rw [List.getD_eq_getElem?_getD, List.getElem?_eq_none (by omega)]
  rfl
theorem Row.size {w : World} {b n : Nat} {D : DataW Unit} {f : Nat → List UInt8} {N : Nat} (h : Row w b n D f N) : Maps.size D ≤ n := by
  obtain ⟨es, clock, hb, F, hs, hD⟩ := h.1.1
  subst hD
  show ((es.toList.map (Go.WideElems.rg Try.prog 3 HR)).foldr DataW.insert []).length ≤ n
  rw [length_sorted]
  simpa using hs
set_option maxRecDepth 100000 in
set_option maxHeartbeats 8000000 in
theorem grow_any (A : Option Addr) (n c : Nat) (s : List Acc) (w : World) (sl : Sl w 4 A n (A4 s)) (hlen : s.length = n) (hn : n ≤ 1099511627776) (hwf : ∀ x ∈ s, x.wf) :
    Calls Try.prog 46 #[.slice A n c] w fun e w' => ∃ b m D, e = .returned (.map (some b)) ∧ w.heap.size ≤ b ∧ MapF Try.prog 74 pk w' b m D (fun p => if p.1 ≤ 8 then levF (leavesL s) p.1 p.2 else zero32) ∧ Below w.heap.size w w' := by
  have hmm := @run_makeMap Try.prog
  have HLN := Lib.hid hlen
  have HWF := Lib.hid hwf
  clear hlen hwf
  go_enter Try.func46, Try.ntmps46
  go_wp2_with fail
  have m0 : MapF Try.prog 74 pk (w.alloc (.map #[] 0)) w.heap.size 0 (.map []) (fun _ => List.replicate 32 0) := MapF.new w _ _
  obtain ⟨W, hW, mW, rW, hbW⟩ : ∃ W, W = (w.alloc (.map #[] 0)).alloc (.map #[] 0) ∧ MapF Try.prog 74 pk W w.heap.size 0 (.map []) (fun _ => List.replicate 32 0) ∧ Row W (w.heap.size + 1) 0 (.map []) (rowF (List.replicate 256 zero32)) 256 ∧ Below w.heap.size w W := by
    refine ⟨_, rfl, m0.kept (World.grownBy_alloc _ _ none) (by simp), ?_, ((Below.refl _ _).alloc (Nat.le_refl _) _).alloc (by simp) _⟩
    rw [rowF_start]
    have := Row.new (w.alloc (.map #[] 0)) 256
    simpa using this
  rw [← hW]
  clear m0 hW
  go_loopw [16] (fun k wr => ∃ (q m : Nat) (D : DataW Unit), k = .int .i64 (q : Int) ∧ q ≤ n ∧ m ≤ q ∧ Row wr (w.heap.size + 1) m D (rowF ((s.take q).foldl setL (List.replicate 256 zero32))) 256 ∧ MapF Try.prog 74 pk wr w.heap.size 0 (.map []) (fun _ => List.replicate 32 0) ∧ Below w.heap.size w wr) (fun k _ => n - (intOf k).toNat)
  case atStart => exact ⟨0, 0, .map [], rfl, Nat.zero_le _, Nat.le_refl _, rW, mW, hbW⟩
  case round =>
    clear rW mW hbW
    obtain ⟨q, m, D, rfl, hq, hm, hr, hm0, hb⟩ := hrel
    by_cases hlt : q < n
    · have t1 : (q : Int) < (n : Int) := by omega
      obtain ⟨x, hx⟩ : ∃ x, s[q]? = some x := ⟨_, List.getElem?_eq_getElem (by rw [HLN.out]; exact hlt)⟩
      obtain ⟨b, o, rfl, hbb⟩ := sl.some_ (by omega)
      have slr := sl.to hb
      obtain ⟨c0, c1, c2, c3⟩ := slr.all4 q x hx
      have HX := Lib.hid hx
      have HXW := Lib.hid (HWF.out x (List.mem_of_getElem? hx))
      clear hx
      have bx : Blk (wr.alloc (.cells #[.int .i64 x.id, .int .i64 x.bal, .int .i64 x.non, .int .i64 x.dat] 23)) wr.heap.size 23 (accC x) := Blk.new wr _ _
      have hal : Below wr.heap.size wr (wr.alloc (.cells #[.int .i64 x.id, .int .i64 x.bal, .int .i64 x.non, .int .i64 x.dat] 23)) := (Below.refl _ _).alloc (Nat.le_refl _) _
      have hr1 := hr.kept (World.grownBy_alloc wr (.cells #[.int .i64 x.id, .int .i64 x.bal, .int .i64 x.non, .int .i64 x.dat] 23) none) (by simp)
      have hm1 := hm0.kept (World.grownBy_alloc wr (.cells #[.int .i64 x.id, .int .i64 x.bal, .int .i64 x.non, .int .i64 x.dat] 23) none) (by simp)
      have hb1 := hb.trans (hal.mono hb.size)
      have hrl := hr.lt
      have hbs := hb.size
      have HFT := Lib.hid (fold_take (l := List.replicate 256 zero32) HX.out)
      have HCL : Hid (((s.take q).foldl setL (List.replicate 256 zero32)).length = 256) := (show _ = _ by rw [fold_len, List.length_replicate])
      generalize (s.take q).foldl setL (List.replicate 256 zero32) = cur at *
      go_wp2_with fail
      clear hr hm0 hb
      generalize wr.alloc (.cells #[.int .i64 x.id, .int .i64 x.bal, .int .i64 x.non, .int .i64 x.dat] 23) = V at *
      by_cases hin : 0 ≤ x.id ∧ x.id < 256
      · refine (some_yes x.id V hin).mono ?_
        rintro e V' ⟨rfl, rfl⟩
        obtain ⟨k, hk⟩ : ∃ k : Nat, x.id = (k : Int) := ⟨x.id.toNat, by omega⟩
        have hk256 : k < 256 := by omega
        have HS : Hid (setL cur x = cur.set k (leafS x)) := (show _ = _ by unfold setL; rw [if_pos hin, hk]; rfl)
        have HRS := Lib.hid (rowF_set cur k (leafS x) (by rw [HCL.out]; exact hk256))
        obtain ⟨-, k0, k1, k2, k3⟩ := acc_cells bx
        clear c0 c1 c2 c3 hin
        go_wp2_with fail
        clear k0 k1 k2 k3
        refine wp_region_C [(0, true), (1, true), (2, true), (3, true), (4, false), (5, false)] (RBut (some (w.heap.size + 1))) (by kernel_rfl) (by kernel_rfl) (by kernel_rfl) (by decide) (RBut.refl_ _) (RBut.trans_ _) (by intro d v c a w h; cases d <;> exact h) ?_
        have bx' : Blk V.drew wr.heap.size 23 (accC x) := bx
        have hr' : Row V.drew (w.heap.size + 1) m D (rowF cur) 256 := hr1
        have hm' : MapF Try.prog 74 pk V.drew w.heap.size 0 (.map []) (fun _ => List.replicate 32 0) := hm1
        have hb' : Below w.heap.size w V.drew := hb1.drew
        have hVr : wr.heap.size < V.drew.heap.size := bx.lt
        clear bx hr1 hm1 hb1 hal
        generalize V.drew = U at *
        have hne : some wr.heap.size ≠ some (w.heap.size + 1) := by intro e; injection e; omega
        have c0 : ∀ w', RBut (some (w.heap.size + 1)) U w' → w'.cell? ⟨wr.heap.size, 0, none⟩ = some (.int .i64 (k : Int)) := fun w' h => by rw [← hk]; exact (acc_cells (bx'.but h hne)).2.1
        repeat (first | (refine wpC_quiet (v := ?_) rfl (by rfl) ?_ ?_; rotate_left; (· (intro w' hw'; go_simp; try with_reducible rfl)); simp only [Act.put, List.setIfInBounds_toArray, List.set_cons_zero, List.set_cons_succ]) | (refine wpC_val (v := ?_) (RBut.refl_ _) rfl (by rfl) ?_ ?_; rotate_left; (· (go_simp; try with_reducible rfl)); simp only [Act.put, List.setIfInBounds_toArray, List.set_cons_zero, List.set_cons_succ]) | (refine wpC_skip rfl (by rfl) ?_; simp only [Act.put, List.setIfInBounds_toArray, List.set_cons_zero, List.set_cons_succ]) | (refine wpC_skip' (RBut.refl_ _) rfl (by rfl) ?_; simp only [Act.put, List.setIfInBounds_toArray, List.set_cons_zero, List.set_cons_succ]))
        refine wpC_load rfl (by rfl) _ _ rfl wr.heap.size 0 rfl (accC x) _ (fun w' h => (bx'.but h hne).range) Try.underlying23 rfl info_acc ?_
        simp only [Act.put, List.setIfInBounds_toArray, List.set_cons_zero, List.set_cons_succ]
        (refine wpC_loud rfl (by rfl) ?_; intro K hK; go_simp)
        refine (leaf_any x HXW.out _).mono ?_
        rintro e U2 ⟨rfl, h2⟩
        have hr2 := hr'.kept (grown_of_below h2 none) (by simp)
        have hm2 := hm'.kept (grown_of_below h2 none) (by simp)
        have hb2 := hb'.trans (h2.mono hb'.size)
        (refine hK.out _ _ (RBut.of_below h2) ?_; clear hK K; try simp only [Act.put, List.setIfInBounds_toArray, List.set_cons_zero, List.set_cons_succ])
        refine wpC_loud rfl (by rfl) ?_
        intro K hK
        refine wp_mput ik_inj _ _ _ rfl keyed_int Try.underlying96 rfl hr2.1 (by simp only [maxLen]; omega) k rfl (keyOf_ik (by omega)) (leafS x) (leafS_len x) rfl ?_
        intro U3 hp3 hg3
        have hr3 := Row.put hr2 hk256 (by decide) hp3
        rw [HRS.out] at hr3
        have hm3 := hm2.kept hg3 (by simp)
        have hb3 := hb2.trans (below_but hg3 (by omega) hb2.size)
        (refine hK.out _ _ (hg3) ?_; clear hK K; try simp only [Act.put, List.setIfInBounds_toArray, List.set_cons_zero, List.set_cons_succ])
        refine wpC_nil ?_
        clear c0
        go_wp2_with fail
        go_roundw
        case rel => exact ⟨q + 1, m + 1, _, by go_num, by omega, by omega, by rw [HFT.out, HS.out]; exact hr3, hm3, hb3⟩
        case measure => simp [intOf]; omega
      · refine (some_no x.id V hin).mono ?_
        rintro e V' ⟨rfl, rfl⟩
        have HS : Hid (setL cur x = cur) := (show _ = _ by unfold setL; rw [if_neg hin])
        clear hin
        go_wp2_with fail
        go_roundw
        case rel => exact ⟨q + 1, m, D, by go_num, by omega, by omega, by rw [HFT.out, HS.out]; exact hr1, hm1, hb1⟩
        case measure => simp [intOf]; omega
    · have t1 : ¬ (q : Int) < (n : Int) := by omega
      have e : s.take q = s := List.take_of_length_le (by rw [HLN.out]; omega)
      have hr9 : Row wr (w.heap.size + 1) m D (levF (leavesL s) 0) 256 := by
        have h9 := hr
        rw [e] at h9
        exact h9
      have hm9 : MapF Try.prog 74 pk wr w.heap.size 0 (.map []) (levM (leavesL s) 0) := by
        rw [levM_zero]
        exact hm0
      have hL := leavesL_len s
      have HLL := Lib.hid hL
      clear hr hm0 e hL
      have hr0 := hr9.lt
      obtain ⟨L, hLe⟩ : ∃ L, leavesL s = L := ⟨_, rfl⟩
      have HLE := Lib.hid hLe
      rw [hLe] at hr9 hm9 HLL
      clear hLe
      go_wp2_with fail
      go_loopw [4, 29] (fun r k wr => ∃ (lv b m mm : Nat) (D DM : DataW Unit), r = .map (some b) ∧ k = .int .i64 (lv : Int) ∧ lv ≤ 9 ∧ w.heap.size < b ∧ m ≤ 1099511627776 ∧ mm ≤ lv * 1099511627776 ∧ Row wr b m D (rowL L lv) 256 ∧
        MapF Try.prog 74 pk wr w.heap.size mm DM (levM L lv) ∧ Below w.heap.size w wr) (fun _ k _ => 9 - (intOf k).toNat)
      case atStart => exact ⟨0, w.heap.size + 1, m, 0, D, .map [], rfl, rfl, by omega, by omega, by omega, by omega, hr9, hm9, hb⟩
      case round =>
        clear hr9 hm9 hb hr0
        obtain ⟨lv, b, m, mm, D, DM, rfl, rfl, hlv, hbM, hm40, hmm40, hr, hM, hb⟩ := hrel
        by_cases hlt9 : lv < 9
        · have t2 : (lv : Int) < 9 := by omega
          rw [rowL_lev L HLL.out lv (by omega)] at hr
          have hr1 := hr.kept (World.grownBy_alloc wr (.map #[] 0) none) (by simp)
          have hM1 := hM.kept (World.grownBy_alloc wr (.map #[] 0) none) (by simp)
          have hu1 := Row.new wr 256
          have hb1 := hb.trans (((Below.refl wr.heap.size wr).alloc (Nat.le_refl _) (.map #[] 0)).mono hb.size)
          have hrl := hr.lt
          have hU : (wr.alloc (.map #[] 0)).heap.size = wr.heap.size + 1 := by simp
          go_wp2_with (first
            | (at_range
               refine wpList_range_own _ rfl _ 96 rfl 3 27 keyed_int Try.underlying96 HR b m D rfl hr1.1.1 ?_
               intro w1 hrg1 hg1 hs1
               simp only [Act.put, List.setIfInBounds_toArray, List.set_cons_zero, List.set_cons_succ]))
          have hr2 := hr1.kept hg1 (by simp)
          have hM2 := hM1.kept hg1 (by simp)
          have hu2 := hu1.kept hg1 (by simp)
          have hb2 := hb1.trans ⟨hg1.os, hg1.tape, hg1.output, hg1.size, fun k hk => hg1.block k (by rw [hU]; have := hb.size; omega) (by simp)⟩
          rw [hU] at hrg1 hs1 ⊢
          have hsz := hb.size
          have hcnt := hr1.size
          rw [show (fun _ : Nat => List.replicate 32 (0 : UInt8)) = (fun _ => zero32) from rfl] at hu2
          rw [midM_start L lv] at hM2
          clear hr hM hb hr1 hM1 hu1 hb1 hg1
          obtain ⟨p, hp⟩ : ∃ p, p = wr.heap.size := ⟨_, rfl⟩
          rw [← hp] at hrg1 hu2 hs1 hrl hsz ⊢
          clear hU hp
          go_loopw [9] (fun _ wi => ∃ (left : Lit → Bool) (cnt mu mm' : Nat) (Du DM' : DataW Unit) (gu gm : Nat → List UInt8), wi.ranges Try.prog 3 HR b (p + 1) m D left cnt ∧ Row wi b m D (levF L lv) 256 ∧ Row wi p mu Du gu 256 ∧
            MapF Try.prog 74 pk wi w.heap.size mm' DM' (midM L lv gm) ∧ Hid (HalfUp (levF L lv) gu (fun x => Maps.has D (.int .i64 (x : Int)) = true) (fun x => left (.int .i64 (x : Int)) = true)) ∧
            Hid (HalfM (levF L lv) gm (fun x => Maps.has D (.int .i64 (x : Int)) = true) (fun x => left (.int .i64 (x : Int)) = true)) ∧ mu + cnt ≤ m ∧ mm' + cnt ≤ (lv + 1) * 1099511627776 ∧ Below w.heap.size w wi) (fun _ wi => wi.rangeLeft b (p + 1))
          case atStart => exact ⟨_, _, 0, mm, .map [], DM, _, _, hrg1, hr2, hu2, hM2, halfUp_start _ _, halfM_start _ _, by omega, by omega, hb2⟩
          case round =>
            clear hrg1 hr2 hu2 hM2 hb2
            obtain ⟨left, cnt, mu, mm', Du, DM', gu, gm, hrg, hr, hu, hM, hHU, hHM, hmu, hmm', hb⟩ := hrel
            have hri := hrg.lt
            go_wp2_with (first
              | (at_next; go_loud (refine wpl_next_h rfl _ rfl b (p + 1) m D (levF L lv) 256 (by decide) left cnt rfl hrg hr ?_ ?_)))
            · intro hc0 hl0
              have hf : ∀ c : Nat, ¬ Maps.has D (.int .i64 (c : Int)) = true → levF L lv c = zero32 := fun c hc => by
                by_cases h : c < 256
                · exact hr.none (by omega) hc
                · exact levF_far L lv c HLL.out (by omega) (by omega)
              have e1 := halfUp_end hHU.out (fun c h => by rw [hl0] at h; cases h) hf
              have e2 := halfM_end hHM.out (fun c h => by rw [hl0] at h; cases h) hf
              rw [e2, midM_end] at hM
              have e3 : upF (levF L lv) = rowL L (lv + 1) := by
                show _ = upF (rowL L lv)
                rw [rowL_lev L HLL.out lv (by omega)]
              rw [e1, e3] at hu
              clear e1 e2 e3 hf hHU hHM hrg hr
              go_wp2_with fail
              go_roundw
              case rel => exact ⟨lv + 1, p, mu, mm', Du, DM', rfl, by go_num, by omega, by omega, by omega, by omega, hu, hM, hb⟩
              case measure => simp [intOf]; omega
            · intro x w2 cnt' hx hlx hfx hrg2 hlt2 hg2 hs2 hen
              have HC0 := Lib.hid hrg.left_eq
              have hbs := hb.size
              have HS2 := Lib.hid hs2
              have hri2 : p + 1 < w2.heap.size := by omega
              clear hs2
              have hr2 := hr.kept hg2 (by simp; omega)
              have hu2 := hu.kept hg2 (by simp)
              have hM2 := hM.kept hg2 (by simp; omega)
              have hb2 := hb.trans (below_but hg2 (by omega) hb.size)
              clear hrg hr hu hM hb
              obtain ⟨kl, hkl⟩ := keyOf_pk (lv, x) (by simp; omega) (by simp; omega)
              have HK := Lib.hid hkl
              clear hkl
              have e1 : Value.int .i64 ((x : Int) / 2 * 2) = ik (2 * (x / 2)) := by unfold ik; congr 1; omega
              have e2 : Value.int .i64 ((x : Int) / 2 * 2 + 1) = ik (2 * (x / 2) + 1) := by unfold ik; congr 1; omega
              have e3 : Value.int .i64 ((x : Int) / 2) = ik (x / 2) := by unfold ik; congr 1
              have E1 := Lib.hid e1
              have E2 := Lib.hid e2
              have E3 := Lib.hid e3
              clear e1 e2 e3
              unfold hv at hen ⊢
              go_wp2_with (first
                | (refine wpl_store_new rfl _ _ _ rfl 27 _ (B8 (levF L lv x)) rfl rfl (by rw [B8_len, hfx]; rfl) (info_hash hfx) (B8_one _) ?_
                   intro w3 bh hb3
                   simp only [Act.put, List.setIfInBounds_toArray, List.set_cons_zero, List.set_cons_succ]
                   have hr3 := hr2.kept (grown_of_below hb3 none) (by simp)
                   have hu3 := hu2.kept (grown_of_below hb3 none) (by simp)
                   have hM3 := hM2.kept (grown_of_below hb3 none) (by simp)
                   have hrg3 := hrg2.kept (grown_of_below hb3 none) (by simp) (by simp))
                | (refine wpl_load_fld (by rfl) _ _ rfl w2.heap.size 0 rfl (B8 (levF L lv x)) _ bh.range Try.underlying27 rfl (info_hash hfx) ?_)
                | (at_mapUpdate
                   refine wpl_mput pk_inj (by rfl) _ _ _ rfl keyed_place Try.underlying71 rfl hM3 (by simp only [maxLen]; omega) (lv, x) rfl HK.out (levF L lv x) hfx rfl ?_
                   intro w4 hM4 hg4
                   simp only [Act.put, List.setIfInBounds_toArray, List.set_cons_zero, List.set_cons_succ]
                   rw [midM_put] at hM4
                   have hr4 := hr3.kept hg4 (by simp; omega)
                   have hu4 := hu3.kept hg4 (by simp; omega)
                   have hrg4 := hrg3.kept hg4 (by simp; omega) (by simp; omega)
                   obtain ⟨hl1, q1⟩ := hr4.1.get keyed_int Try.underlying96 (zero_h _) (keyOf_ik (show 2 * (x / 2) < 9223372036854775808 by omega))
                   obtain ⟨hl2, q2⟩ := hr4.1.get keyed_int Try.underlying96 (zero_h _) (keyOf_ik (show 2 * (x / 2) + 1 < 9223372036854775808 by omega))
                   rw [← E1.out] at q1
                   rw [← E2.out] at q2))
              refine (above_any (levF L lv (2 * (x / 2))) (levF L lv (2 * (x / 2) + 1)) hl1 hl2 _).mono ?_
              rintro e w5 ⟨rfl, hb5⟩
              have hr5 := hr4.kept (grown_of_below hb5 none) (by simp)
              have hu5 := hu4.kept (grown_of_below hb5 none) (by simp)
              have hM5 := hM4.kept (grown_of_below hb5 none) (by simp)
              have hrg5 := hrg4.kept (grown_of_below hb5 none) (by simp) (by simp)
              have hs3 := hb3.size
              have hs4 := hg4.size
              have hs5 := hb5.size
              have f5 := ((hb2.trans (hb3.mono (by omega))).trans (below_but hg4 (by omega) (by omega))).trans (hb5.mono (by omega))
              go_wp2_with (first
                | (at_mapUpdate
                   refine wpl_mput ik_inj (by rfl) _ _ _ rfl keyed_int Try.underlying96 rfl hu5.1 (by simp only [maxLen]; omega) (x / 2) (by exact E3.out) (keyOf_ik (by omega)) (overS (levF L lv (2 * (x / 2))) (levF L lv (2 * (x / 2) + 1))) (overS_len _ _) rfl ?_
                   intro w6 hu6 hg6
                   simp only [Act.put, List.setIfInBounds_toArray, List.set_cons_zero, List.set_cons_succ]))
              have hu7 := Row.put hu5 (show x / 2 < 256 by omega) (by decide) hu6
              have hr6 := hr5.kept hg6 (by simp; omega)
              have hM6 := hM5.kept hg6 (by simp; omega)
              have hrg6 := hrg5.kept hg6 (by simp; omega) (by simp)
              have f6 := f5.trans (below_but hg6 hsz (by omega))
              have hst : ∀ c : Nat, c ≠ x → left (.int .i64 (c : Int)) = true → (fun z => left z && !z.sameKey (.int .i64 (x : Int))) (.int .i64 (c : Int)) = true := by
                intro c hc hl
                show (left _ && !Lit.sameKey _ _) = true
                rw [hl]
                simp [Lit.sameKey]
                omega
              have hU := halfUp_step (x := x) hHU.out hst
              have hM := halfM_step (x := x) hHM.out hst
              have efu : (fun y => if y = x / 2 then overS (levF L lv (2 * (x / 2))) (levF L lv (2 * (x / 2) + 1)) else gu y) = (fun q => if q = x / 2 then upF (levF L lv) q else gu q) := by
                funext y
                by_cases hy : y = x / 2
                · rw [if_pos hy, if_pos hy, hy]
                  rfl
                · rw [if_neg hy, if_neg hy]
              rw [efu] at hu7
              have hc1 := hrg6.left_eq
              go_roundw
              case rel => exact ⟨_, cnt', mu + 1, mm' + 1, _, _, _, _, hrg6, hr6, hu7, hM6, hU, hM, by omega, by omega, f6⟩
              case measure => rw [hc1, HC0.out]; exact hlt2
        · obtain rfl : lv = 9 := by omega
          have t2 : ¬ (9 : Int) < 9 := by omega
          go_wp2_with fail
          go_ret
          refine ⟨_, rfl, Nat.le_refl _, ⟨mm, DM, ?_⟩, hb⟩
          rw [HLE.out]
          have e9 : levM L 9 = (fun p => if p.1 ≤ 8 then levF L p.1 p.2 else zero32) := by
            funext p
            unfold levM
            by_cases h : p.1 ≤ 8
            · rw [if_pos h, if_pos (by omega)]
            · rw [if_neg h, if_neg (by omega)]
          rw [← e9]
          exact hM
end Go.Proofs.Ytakebmpnbdlcoaa
/- Walks: tree.Root, tree.Prove. -/
set_option linter.unusedSimpArgs false
set_option linter.unusedVariables false
namespace Go.Proofs.Ytakebmpnbdlcoaa
open Go.RowKit
set_option maxRecDepth 100000
theorem rootS_len (s : List Acc) : (rootJ 8 (leavesL s)).length = 32 := by
  rw [rootJ_lev, List.getD_eq_getElem?_getD]
  cases h : (lev 8 (leavesL s))[0]? with
  | none => rfl
  | some x => exact lev_all 8 _ (leavesL_all s) x (List.mem_of_getElem? h)
set_option maxRecDepth 100000 in
set_option maxHeartbeats 2000000 in
theorem treeRoot_any (A : Option Addr) (n c : Nat) (s : List Acc) (w : World) (sl : Sl w 4 A n (A4 s)) (hlen : s.length = n) (hn : n ≤ 1099511627776) (hwf : ∀ x ∈ s, x.wf) :
    Calls Try.prog 21 #[.slice A n c] w fun e w' => e = .returned (hv (rootJ 8 (leavesL s))) ∧ Below w.heap.size w w' := by
  obtain ⟨W, HW, hbw, bz⟩ : ∃ W, Hid (W = w.alloc (.cells #[.int .u8 0, .int .u8 0, .int .u8 0, .int .u8 0, .int .u8 0, .int .u8 0, .int .u8 0, .int .u8 0, .int .u8 0, .int .u8 0, .int .u8 0, .int .u8 0, .int .u8 0, .int .u8 0, .int .u8 0, .int .u8 0, .int .u8 0, .int .u8 0, .int .u8 0, .int .u8 0, .int .u8 0, .int .u8 0, .int .u8 0, .int .u8 0, .int .u8 0, .int .u8 0, .int .u8 0, .int .u8 0, .int .u8 0, .int .u8 0, .int .u8 0, .int .u8 0] 27)) ∧ Below w.heap.size w W ∧ Blk W w.heap.size 27 (B8 zero32) :=
    ⟨_, rfl, (Below.refl _ _).alloc (Nat.le_refl _) _, Blk.new w #[.int .u8 0, .int .u8 0, .int .u8 0, .int .u8 0, .int .u8 0, .int .u8 0, .int .u8 0, .int .u8 0, .int .u8 0, .int .u8 0, .int .u8 0, .int .u8 0, .int .u8 0, .int .u8 0, .int .u8 0, .int .u8 0, .int .u8 0, .int .u8 0, .int .u8 0, .int .u8 0, .int .u8 0, .int .u8 0, .int .u8 0, .int .u8 0, .int .u8 0, .int .u8 0, .int .u8 0, .int .u8 0, .int .u8 0, .int .u8 0, .int .u8 0, .int .u8 0] 27⟩
  have HLN := Lib.hid hlen
  have HWF := Lib.hid hwf
  clear hlen hwf
  go_enter Try.func21, Try.ntmps21
  go_upto_region 1 with fail
  refine wp_at HW.out ?_
  clear HW
  go_wp2_with fail
  refine (grow_any A n c s W (sl.to hbw) HLN.out hn HWF.out).mono ?_
  rintro e w1 ⟨b, m, D, rfl, hbn, hm, hb⟩
  have bz1 := bz.to hb
  have f1 := hbw.trans (hb.mono hbw.size)
  obtain ⟨kl, hkl⟩ := keyOf_pk (8, 0) (by decide) (by decide)
  obtain ⟨hl, q1⟩ := hm.get (t := 71) keyed_place Try.underlying71 (zero_h _) hkl
  have e0 : (if ((8, 0) : Nat × Nat).1 ≤ 8 then levF (leavesL s) ((8, 0) : Nat × Nat).1 ((8, 0) : Nat × Nat).2 else zero32) = rootJ 8 (leavesL s) := by rw [rootJ_lev]; rfl
  rw [e0] at hl q1
  clear e0 hm hkl
  have q2 : (Instr.lookup 71 (.map (some b)) (.agg #[.int .i64 8, .int .i64 0]) false).run Try.prog w1 = .ok (.agg (B8 (rootJ 8 (leavesL s))).toArray) w1 := q1
  clear q1
  obtain ⟨r, hr⟩ : ∃ r, rootJ 8 (leavesL s) = r := ⟨_, rfl⟩
  rw [hr] at hl q2
  have HR := Lib.hid hr
  clear hr
  have HL := Lib.hid hl
  clear hl
  go_wp2_with (first
    | (refine wpl_store_fld (by rfl) _ _ _ rfl w.heap.size 0 _ _ (B8 r) rfl _ rfl rfl bz1 (by rw [B8_len, HL.out]; decide) (info_hash HL.out) (B8_one _) ?_
       intro w2 bz2 bu2
       rw [put_all _ _ (by rw [B8_len, HL.out]; rfl)] at bz2))
  exact bodyPost_ret (v := hv r) (results_blk Try.results21 rfl bz2 Try.underlying27 rfl (info_hash HL.out)) rfl ⟨by rw [HR.out], f1.trans (below_but bu2 (Nat.le_refl _) f1.size)⟩
theorem xor_i64_nat (a b : Nat) (ha : a < 9223372036854775808) (hb : b < 9223372036854775808) : bits .xor .i64 (a : Int) (b : Int) = ((a ^^^ b : Nat) : Int) := by
  have hx : a ^^^ b < 2 ^ 63 := Nat.xor_lt_two_pow (by omega) (by omega)
  have h1 : (BitVec.ofInt 64 (a : Int)).toNat = a := by
    rw [BitVec.ofInt_natCast, BitVec.toNat_ofNat]; exact Nat.mod_eq_of_lt (by omega)
  have h2 : (BitVec.ofInt 64 (b : Int)).toNat = b := by
    rw [BitVec.ofInt_natCast, BitVec.toNat_ofNat]; exact Nat.mod_eq_of_lt (by omega)
  show IntKind.i64.wrap ((BitVec.ofInt 64 (a : Int) ^^^ BitVec.ofInt 64 (b : Int)).toNat : Int) = _
  rw [BitVec.toNat_xor, h1, h2]
  exact IntWalk.i64_in _ (by omega)
theorem and_i64_nat (a b : Nat) (ha : a < 9223372036854775808) (hb : b < 9223372036854775808) : bits .and .i64 (a : Int) (b : Int) = ((a &&& b : Nat) : Int) := by
  have hx : a &&& b < 2 ^ 63 := Nat.and_lt_two_pow _ (by omega)
  have h1 : (BitVec.ofInt 64 (a : Int)).toNat = a := by
    rw [BitVec.ofInt_natCast, BitVec.toNat_ofNat]; exact Nat.mod_eq_of_lt (by omega)
  have h2 : (BitVec.ofInt 64 (b : Int)).toNat = b := by
    rw [BitVec.ofInt_natCast, BitVec.toNat_ofNat]; exact Nat.mod_eq_of_lt (by omega)
  show IntKind.i64.wrap ((BitVec.ofInt 64 (a : Int) &&& BitVec.ofInt 64 (b : Int)).toNat : Int) = _
  rw [BitVec.toNat_and, h1, h2]
  exact IntWalk.i64_in _ (by omega)
theorem shr_nat (k q : Nat) : (k : Int) / 2 ^ q = ((k / 2 ^ q : Nat) : Int) := by
  rw [Int.natCast_ediv, Int.natCast_pow]
  rfl
/-- what stands beside a way up, as the code reckons it -/
theorem sib_at (k q : Nat) (hk : k < 256) : bits .xor .i64 ((k : Int) / 2 ^ q) 1 = (((k / 2 ^ q) ^^^ 1 : Nat) : Int) := by
  have h := Nat.div_le_self k (2 ^ q)
  rw [shr_nat]
  exact xor_i64_nat (k / 2 ^ q) 1 (by omega) (by omega)
/-- a path as a value -/
def pv (p : List (List UInt8)) : Value := .agg (H8 p).toArray
def path0 : List (List UInt8) := List.replicate 8 zero32
/-- the sums beside an account's way up; noughts of none -/
def proveS (s : List Acc) (i : Int) : List (List UInt8) := if 0 ≤ i ∧ i < 256 then proveJ 8 (leavesL s) i.toNat else path0
theorem info_path {p : List (List UInt8)} (h : p.length = 8) (ha : ∀ x ∈ p, x.length = 32) : (Try.prog.info? 41).map (·.size) = some (H8 p).length := by rw [H8_len p ha, h]; kernel_rfl
theorem zero_path : Try.zeroCells41 = (H8 path0).toArray := by kernel_rfl
/-- half of a path's sums -/
def halfP (L : List (List UInt8)) (i k : Nat) : List (List UInt8) := (proveJ 8 L i).take k ++ path0.drop k
theorem proveJ_len (j : Nat) (L : List (List UInt8)) (i : Nat) : (proveJ j L i).length = j := by simp [proveJ]
theorem levF_len {L : List (List UInt8)} (hA : ∀ x ∈ L, x.length = 32) (k c : Nat) : (levF L k c).length = 32 := by
  unfold levF
  rw [List.getD_eq_getElem?_getD]
  cases h : (lev k L)[c]? with
  | none => rfl
  | some x => exact lev_all k L hA x (List.mem_of_getElem? h)
theorem proveJ_all {L : List (List UInt8)} (hA : ∀ x ∈ L, x.length = 32) (j i : Nat) : ∀ x ∈ proveJ j L i, x.length = 32 := by
  intro x hx
  obtain ⟨k, _, rfl⟩ := List.mem_map.1 hx
  exact levF_len hA k _
theorem halfP_len (L : List (List UInt8)) (i k : Nat) (hk : k ≤ 8) : (halfP L i k).length = 8 := by
  unfold halfP
  rw [List.length_append, List.length_take, List.length_drop, proveJ_len]
  simp [path0]
  omega
theorem path0_all : ∀ x ∈ path0, x.length = 32 := by decide
theorem halfP_all {L : List (List UInt8)} (hA : ∀ x ∈ L, x.length = 32) (i k : Nat) : ∀ x ∈ halfP L i k, x.length = 32 := by
  intro x hx
  rcases List.mem_append.1 hx with h | h
  · exact proveJ_all hA 8 i x (List.mem_of_mem_take h)
  · exact path0_all x (List.mem_of_mem_drop h)
theorem halfP_next (L : List (List UInt8)) (i k : Nat) (hk : k < 8) : halfP L i (k + 1) = (halfP L i k).set k (sib k i L) := by
  have e1 : ((proveJ 8 L i).take k).length = k := by rw [List.length_take, proveJ_len]; omega
  have e2 : (proveJ 8 L i)[k]? = some (sib k i L) := by
    unfold proveJ
    rw [List.getElem?_map, List.getElem?_range hk]
    rfl
  unfold halfP
  rw [List.set_append_right _ _ (by omega), e1, List.take_add_one, e2, List.append_assoc]
  congr 1
  simp only [Nat.sub_self]
  have hl : k < path0.length := by simpa [path0] using hk
  rw [show path0.drop k = path0[k] :: path0.drop (k + 1) from List.drop_eq_getElem_cons hl]
  rfl
theorem halfP_end (L : List (List UInt8)) (i : Nat) : halfP L i 8 = proveJ 8 L i := by
  unfold halfP
  rw [List.take_of_length_le (by rw [proveJ_len]; exact Nat.le_refl _), List.drop_eq_nil_of_le (by simp [path0]), List.append_nil]
set_option maxRecDepth 100000 in
set_option maxHeartbeats 2000000 in
theorem prove_any (A : Option Addr) (n c : Nat) (s : List Acc) (i : Int) (w : World) (sl : Sl w 4 A n (A4 s)) (hlen : s.length = n) (hn : n ≤ 1099511627776) (hwf : ∀ x ∈ s, x.wf) :
    Calls Try.prog 24 #[.slice A n c, .int .i64 i] w fun e w' => e = .returned (pv (proveS s i)) ∧ Below w.heap.size w w' := by
  obtain ⟨W, HW, hbw, bz, bp⟩ : ∃ W, Hid (W = (w.alloc (.cells Try.zeroCells41 41)).alloc (.cells Try.zeroCells41 41)) ∧ Below w.heap.size w W ∧ Blk W w.heap.size 41 (H8 path0) ∧ Blk W (w.heap.size + 1) 41 (H8 path0) := by
    refine ⟨_, rfl, ((Below.refl _ _).alloc (Nat.le_refl _) _).alloc (by simp) _, ?_, ?_⟩
    · have := (Blk.new w Try.zeroCells41 41).to ((Below.refl _ _).alloc (Nat.le_refl _) (.cells Try.zeroCells41 41))
      rwa [show Try.zeroCells41.toList = H8 path0 from by rw [zero_path]] at this
    · have := Blk.new (w.alloc (.cells Try.zeroCells41 41)) Try.zeroCells41 41
      rw [show (w.alloc (.cells Try.zeroCells41 41)).heap.size = w.heap.size + 1 from by simp] at this
      rwa [show Try.zeroCells41.toList = H8 path0 from by rw [zero_path]] at this
  have HLN := Lib.hid hlen
  have HWF := Lib.hid hwf
  have ip0 := info_path (p := path0) rfl (by decide)
  have IP0 := Lib.hid ip0
  clear hlen hwf ip0
  have hW2 := bp.lt
  by_cases hin : 0 ≤ i ∧ i < 256
  · obtain ⟨k0, rfl⟩ : ∃ k : Nat, i = (k : Int) := ⟨i.toNat, by omega⟩
    have hk256 : k0 < 256 := by omega
    have HP : Hid (proveS s (k0 : Int) = proveJ 8 (leavesL s) k0) := (show _ = _ by unfold proveS; rw [if_pos hin]; rfl)
    go_enter Try.func24, Try.ntmps24
    go_upto_region 2 with fail
    refine wp_at HW.out ?_
    clear HW
    go_wp2_with fail
    refine (some_yes (k0 : Int) W hin).mono ?_
    rintro e W' ⟨rfl, rfl⟩
    clear hin
    go_wp2_with fail
    refine (grow_any A n c s W (sl.to hbw) HLN.out hn HWF.out).mono ?_
    rintro e w1 ⟨b, m, D, rfl, hbn, hm, hb⟩
    have bz1 := bz.to hb
    have bp1 := bp.to hb
    have f1 := hbw.trans (hb.mono hbw.size)
    have hw1 := hb.size
    have hHL := leavesL_len s
    have hHA := leavesL_all s
    obtain ⟨L, hLe⟩ : ∃ L, leavesL s = L := ⟨_, rfl⟩
    rw [hLe] at hm HP hHL hHA
    have HLL := Lib.hid hHL
    have HLA := Lib.hid hHA
    clear hHL hHA hLe bz bp hbw hb
    have hmb := hm.1.lt
    go_wp2_with fail
    go_loopw [14] (fun k wr => ∃ q : Nat, k = .int .i64 (q : Int) ∧ q ≤ 8 ∧ Blk wr (w.heap.size + 1) 41 (H8 (halfP L k0 q)) ∧ RBut (some (w.heap.size + 1)) w1 wr) (fun k _ => 8 - (intOf k).toNat)
    case atStart => exact ⟨0, rfl, Nat.zero_le _, bp1, RBut.refl_ _ _⟩
    case round =>
      clear bp1
      obtain ⟨q, rfl, hq, bp, hbu⟩ := hrel
      by_cases hlt : q < 8
      · have t1 : (q : Int) < 8 := by omega
        have hk := sib_at k0 q hk256
        have hdl := Nat.div_le_self k0 (2 ^ q)
        have hxl : (k0 / 2 ^ q) ^^^ 1 < 2 ^ 9 := Nat.xor_lt_two_pow (by omega) (by omega)
        obtain ⟨kl, hkl⟩ := keyOf_pk (q, (k0 / 2 ^ q) ^^^ 1) (by simp; omega) (by simp; omega)
        have hmr := hm.kept hbu (by intro e; injection e; omega)
        obtain ⟨hl, q1⟩ := hmr.get (t := 71) keyed_place Try.underlying71 (zero_h _) hkl
        have e0 : (if ((q, (k0 / 2 ^ q) ^^^ 1) : Nat × Nat).1 ≤ 8 then levF L ((q, (k0 / 2 ^ q) ^^^ 1) : Nat × Nat).1 ((q, (k0 / 2 ^ q) ^^^ 1) : Nat × Nat).2 else zero32) = sib q k0 L := by
          rw [if_pos (by show q ≤ 8; omega)]
          rfl
        rw [e0] at hl q1
        have q2 : (Instr.lookup 71 (.map (some b)) (.agg #[.int .i64 (q : Int), .int .i64 (bits .xor .i64 ((k0 : Int) / 2 ^ q) 1)]) false).run Try.prog wr = .ok (.agg (B8 (sib q k0 L)).toArray) wr := by
          rw [hk]
          exact q1
        have HNX := Lib.hid (halfP_next L k0 q hlt)
        have hpu := put_H8 (halfP L k0 q) [] q (sib q k0 L) (halfP_all HLA.out k0 q) hl (by rw [halfP_len L k0 q hq]; omega)
        rw [List.append_nil, List.append_nil, ← HNX.out] at hpu
        have HPU := Lib.hid hpu
        have HLE : Hid (q * 32 + 32 ≤ (H8 (halfP L k0 q)).length) := (by
          show _ ≤ _
          rw [H8_len _ (halfP_all HLA.out k0 q), halfP_len L k0 q hq]
          omega)
        have HL := Lib.hid hl
        obtain ⟨x, hx⟩ : ∃ x, sib q k0 L = x := ⟨_, rfl⟩
        rw [hx] at q2 HPU HL
        clear e0 hkl hk q1 hmr hpu hx hl hxl
        go_wp2_with (first
          | (refine wpl_store_fld (by rfl) _ _ _ rfl (w.heap.size + 1) (q * 32) _ _ (B8 x) rfl _ rfl rfl bp (by rw [B8_len, HL.out]; exact HLE.out) (info_hash HL.out) (B8_one _) ?_
             intro w2 bp2 bu2
             rw [HPU.out] at bp2))
        go_roundw
        case rel => exact ⟨q + 1, by go_num, by omega, bp2, RBut.trans_ _ _ _ _ hbu bu2⟩
        case measure => simp [intOf]; omega
      · obtain rfl : q = 8 := by omega
        have t1 : ¬ (8 : Int) < 8 := by omega
        rw [halfP_end] at bp
        have ipp := info_path (proveJ_len 8 L k0) (proveJ_all HLA.out 8 k0)
        have IPP := Lib.hid ipp
        have bz2 := bz1.but hbu (by intro e; injection e; omega)
        have f2 := f1.trans (below_but hbu (by omega) f1.size)
        have HLN2 : Hid ((H8 (proveJ 8 L k0)).length = 256) := (by show _ = _; rw [H8_len _ (proveJ_all HLA.out 8 k0), proveJ_len])
        obtain ⟨pp, hpp⟩ : ∃ pp, proveJ 8 L k0 = pp := ⟨_, rfl⟩
        rw [hpp] at bp IPP HLN2 HP
        clear ipp hpp
        go_wp2_with (first
          | (refine wpl_load_fld (by rfl) _ _ rfl (w.heap.size + 1) 0 rfl (H8 pp) _ bp.range Try.underlying41 rfl IPP.out ?_)
          | (refine wpl_store_fld (by rfl) _ _ _ rfl w.heap.size 0 _ _ (H8 pp) rfl _ rfl rfl bz2 (by rw [HLN2.out]; decide) IPP.out (H8_one _) ?_
             intro w3 bz3 bu3
             rw [put_all _ _ (by rw [HLN2.out]; rfl)] at bz3))
        exact bodyPost_ret (v := pv pp) (results_blk Try.results24 rfl bz3 Try.underlying41 rfl IPP.out) rfl ⟨by rw [HP.out], f2.trans (below_but bu3 (Nat.le_refl _) f2.size)⟩
  · have HP : Hid (proveS s i = path0) := (show _ = _ by unfold proveS; rw [if_neg hin])
    go_enter Try.func24, Try.ntmps24
    go_upto_region 2 with fail
    refine wp_at HW.out ?_
    clear HW
    go_wp2_with fail
    refine (some_no i W hin).mono ?_
    rintro e W' ⟨rfl, rfl⟩
    clear hin
    have HLN2 : Hid ((H8 path0).length = 256) := (by show _ = _; decide)
    go_wp2_with (first
      | (refine wpl_load_fld (by rfl) _ _ rfl (w.heap.size + 1) 0 rfl (H8 path0) _ bp.range Try.underlying41 rfl IP0.out ?_)
      | (refine wpl_store_fld (by rfl) _ _ _ rfl w.heap.size 0 _ _ (H8 path0) rfl _ rfl rfl bz (by rw [HLN2.out]; decide) IP0.out (H8_one _) ?_
         intro w3 bz3 bu3
         rw [put_all _ _ rfl] at bz3))
    exact bodyPost_ret (v := pv path0) (results_blk Try.results24 rfl bz3 Try.underlying41 rfl IP0.out) rfl ⟨by rw [HP.out], hbw.trans (below_but bu3 (Nat.le_refl _) hbw.size)⟩
end Go.Proofs.Ytakebmpnbdlcoaa
/- Walks: tree.Up: where a leaf leads to. -/
set_option linter.unusedSimpArgs false
set_option linter.unusedVariables false
namespace Go.Proofs.Ytakebmpnbdlcoaa
open Go.RowKit
set_option maxRecDepth 100000
def upA (a : Acc) (p : List (List UInt8)) : List UInt8 := if 0 ≤ a.id ∧ a.id < 256 then upL p a.id.toNat (leafS a) else zero32
theorem upL_len : ∀ (p : List (List UInt8)) (i : Nat) (h : List UInt8), h.length = 32 → (upL p i h).length = 32
  | [], _, h, hh => hh
  | x :: p, i, h, hh => by
    unfold upL
    apply upL_len p
    split <;> exact overS_len _ _
theorem upA_len (a : Acc) (p : List (List UInt8)) : (upA a p).length = 32 := by
  unfold upA
  split
  · exact upL_len _ _ _ (leafS_len a)
  · rfl
theorem bit_at (k q : Nat) (hk : k < 256) : bits .and .i64 ((k : Int) / 2 ^ q) 1 = (((k / 2 ^ q) % 2 : Nat) : Int) := by
  have h := Nat.div_le_self k (2 ^ q)
  rw [shr_nat, show (1 : Int) = ((1 : Nat) : Int) from rfl, and_i64_nat (k / 2 ^ q) 1 (by omega) (by omega), Nat.and_one_is_mod]
theorem H8_cut (p : List (List UInt8)) (hpa : ∀ x ∈ p, x.length = 32) (q : Nat) (x : List UInt8) (hx : p[q]? = some x) : (H8 p).toArray.extract (q * 32) (q * 32 + 32) = (B8 x).toArray := by
  obtain ⟨hlt, hq⟩ := List.getElem?_eq_some_iff.1 hx
  have hx32 : x.length = 32 := hpa x (List.mem_of_getElem? hx)
  have e1 : p = p.take q ++ [x] ++ p.drop (q + 1) := by rw [← hq]; simp
  have e3 : (H8 (p.take q)).length = q * 32 := by
    have := H8_len (p.take q) (fun y hy => hpa y (List.mem_of_mem_take hy))
    rw [List.length_take] at this
    omega
  have e2 : H8 p = H8 (p.take q) ++ B8 x ++ H8 (p.drop (q + 1)) := by
    conv => lhs; rw [e1]
    rw [H8_app, H8_app]
    simp [H8]
  have := ext_mid (H8 (p.take q)) (B8 x) (H8 (p.drop (q + 1)))
  rw [e3, B8_len, hx32] at this
  rw [e2]
  exact this
theorem index_path (t : TypeId) (p : List (List UInt8)) (hpa : ∀ x ∈ p, x.length = 32) (ht : Try.prog.underlying t = some (.array 8 27)) (q : Nat) (hq : q < 8) (x : List UInt8) (hx : p[q]? = some x) (w : World) :
    (Instr.index t (.agg (H8 p).toArray) (.int .i64 (q : Int))).run Try.prog w = .ok (.agg (B8 x).toArray) w := by
  have h1 := run_part_row (P := Try.prog) Try.underlying27 rfl info_h (H8 p).toArray (q * 32) w
  rw [H8_cut p hpa q x hx] at h1
  have h2 : (sizeOf 27).run Try.prog w = .ok 32 w := by kernel_rfl
  have hq1 : (0 : Int) ≤ (q : Int) ∧ (q : Int) < ((8 : Nat) : Int) := by omega
  unfold Instr.index
  simp only [asIntOf, Sem.run_bind, Sem.run_pure, Result.andThen_ok, run_underlying ht, hq1, and_self, if_true, h2, Int.toNat_natCast]
  exact h1
theorem upL_step (p : List (List UInt8)) (q k0 : Nat) (x cur : List UInt8) (hx : p[q]? = some x) : upL (p.drop q) (k0 / 2 ^ q) cur = upL (p.drop (q + 1)) (k0 / 2 ^ (q + 1)) (if k0 / 2 ^ q % 2 = 0 then overS cur x else overS x cur) := by
  obtain ⟨hlt, hq⟩ := List.getElem?_eq_some_iff.1 hx
  rw [List.drop_eq_getElem_cons hlt, hq]
  conv => lhs; unfold upL
  rw [Nat.div_div_eq_div_mul, Nat.pow_succ]
set_option maxRecDepth 100000 in
set_option maxHeartbeats 2000000 in
theorem up_any (a : Acc) (hw : a.wf) (p : List (List UInt8)) (hp : p.length = 8) (hpa : ∀ x ∈ p, x.length = 32) (w : World) :
    Calls Try.prog 26 #[accV a, pv p] w fun e w' => e = .returned (hv (upA a p)) ∧ Below w.heap.size w w' := by
  unfold accV pv
  obtain ⟨W, HW, hbw, ba, bp, bz⟩ : ∃ W, Hid (W = ((w.alloc (.cells (accC a).toArray 23)).alloc (.cells (H8 p).toArray 41)).alloc (.cells #[.int .u8 0, .int .u8 0, .int .u8 0, .int .u8 0, .int .u8 0, .int .u8 0, .int .u8 0, .int .u8 0, .int .u8 0, .int .u8 0, .int .u8 0, .int .u8 0, .int .u8 0, .int .u8 0, .int .u8 0, .int .u8 0, .int .u8 0, .int .u8 0, .int .u8 0, .int .u8 0, .int .u8 0, .int .u8 0, .int .u8 0, .int .u8 0, .int .u8 0, .int .u8 0, .int .u8 0, .int .u8 0, .int .u8 0, .int .u8 0, .int .u8 0, .int .u8 0] 27)) ∧ Below w.heap.size w W ∧
      Blk W w.heap.size 23 (accC a) ∧ Blk W (w.heap.size + 1) 41 (H8 p) ∧ Blk W (w.heap.size + 2) 27 (B8 zero32) := by
    refine ⟨_, rfl, (((Below.refl _ _).alloc (Nat.le_refl _) _).alloc (by simp) _).alloc (by simp; omega) _, ?_, ?_, ?_⟩
    · exact (Blk.new w (accC a).toArray 23).to (((Below.refl _ _).alloc (Nat.le_refl _) _).alloc (by simp) _)
    · have := (Blk.new (w.alloc (.cells (accC a).toArray 23)) (H8 p).toArray 41).to ((Below.refl _ _).alloc (Nat.le_refl _) (.cells #[.int .u8 0, .int .u8 0, .int .u8 0, .int .u8 0, .int .u8 0, .int .u8 0, .int .u8 0, .int .u8 0, .int .u8 0, .int .u8 0, .int .u8 0, .int .u8 0, .int .u8 0, .int .u8 0, .int .u8 0, .int .u8 0, .int .u8 0, .int .u8 0, .int .u8 0, .int .u8 0, .int .u8 0, .int .u8 0, .int .u8 0, .int .u8 0, .int .u8 0, .int .u8 0, .int .u8 0, .int .u8 0, .int .u8 0, .int .u8 0, .int .u8 0, .int .u8 0] 27))
      simpa using this
    · have := Blk.new ((w.alloc (.cells (accC a).toArray 23)).alloc (.cells (H8 p).toArray 41)) #[.int .u8 0, .int .u8 0, .int .u8 0, .int .u8 0, .int .u8 0, .int .u8 0, .int .u8 0, .int .u8 0, .int .u8 0, .int .u8 0, .int .u8 0, .int .u8 0, .int .u8 0, .int .u8 0, .int .u8 0, .int .u8 0, .int .u8 0, .int .u8 0, .int .u8 0, .int .u8 0, .int .u8 0, .int .u8 0, .int .u8 0, .int .u8 0, .int .u8 0, .int .u8 0, .int .u8 0, .int .u8 0, .int .u8 0, .int .u8 0, .int .u8 0, .int .u8 0] 27
      rw [show ((w.alloc (.cells (accC a).toArray 23)).alloc (.cells (H8 p).toArray 41)).heap.size = w.heap.size + 2 from by simp] at this
      exact this
  have HWF := Lib.hid hw
  have HPL := Lib.hid hp
  have HPA := Lib.hid hpa
  have IPP := Lib.hid (info_path hp hpa)
  have hWz := bz.lt
  obtain ⟨-, c0, c1, c2, c3⟩ := acc_cells ba
  clear hw hp hpa
  by_cases hin : 0 ≤ a.id ∧ a.id < 256
  · have HU : Hid (upA a p = upL p a.id.toNat (leafS a)) := (show _ = _ by unfold upA; rw [if_pos hin])
    obtain ⟨k0, hk0⟩ : ∃ k : Nat, a.id = (k : Int) := ⟨a.id.toNat, by omega⟩
    have hk256 : k0 < 256 := by omega
    have HK0 := Lib.hid hk0
    clear hk0
    go_enter Try.func26, Try.ntmps26
    go_upto_region 1 with fail
    refine wp_at HW.out ?_
    clear HW
    go_wp2_with fail
    refine (some_yes a.id W hin).mono ?_
    rintro e W' ⟨rfl, rfl⟩
    clear hin
    go_wp2_with fail
    refine (leaf_any a HWF.out W).mono ?_
    rintro e w1 ⟨rfl, hb1⟩
    have HLL := Lib.hid (leafS_len a)
    have ba1 := ba.to hb1
    have bp1 := bp.to hb1
    have bz1 := bz.to hb1
    have f1 := hbw.trans (hb1.mono hbw.size)
    have hw1 := hb1.size
    unfold hv
    clear ba bp bz hbw hb1 c0 c1 c2 c3
    go_wp2_with (first
      | (refine wpl_store_new rfl _ _ _ rfl 27 _ (B8 (leafS a)) rfl rfl (by rw [B8_len, HLL.out]; rfl) (info_hash HLL.out) (B8_one _) ?_
         intro w2 b2 hb2
         simp only [Act.put, List.setIfInBounds_toArray, List.set_cons_zero, List.set_cons_succ]
         have bp2 := bp1.to hb2)
      | (refine wpl_load_fld (by rfl) _ _ rfl (w.heap.size + 1) 0 rfl (H8 p) _ bp2.range Try.underlying41 rfl IPP.out ?_))
    go_loopw [16] (fun k wr => ∃ (q : Nat) (cur : List UInt8), k = .int .i64 (q : Int) ∧ q ≤ 8 ∧ Hid (cur.length = 32) ∧ Hid (upL p k0 (leafS a) = upL (p.drop q) (k0 / 2 ^ q) cur) ∧ Blk wr w1.heap.size 27 (B8 cur) ∧ RBut (some w1.heap.size) w2 wr) (fun k _ => 8 - (intOf k).toNat)
    case atStart => exact ⟨0, leafS a, rfl, Nat.zero_le _, HLL, (show _ = _ by rw [Nat.pow_zero, Nat.div_one, List.drop_zero]), b2, RBut.refl_ _ _⟩
    case round =>
      clear b2
      obtain ⟨q, cur, rfl, hq, HCL, hrel, bc, hbu⟩ := hrel
      by_cases hlt : q < 8
      · have t1 : (q : Int) < 8 := by omega
        obtain ⟨x, hx⟩ : ∃ x, p[q]? = some x := ⟨_, List.getElem?_eq_getElem (by rw [HPL.out]; exact hlt)⟩
        have HX := Lib.hid hx
        have HXL := Lib.hid (HPA.out x (List.mem_of_getElem? hx))
        have q1 : ∀ w', (Instr.index 41 (.agg (H8 p).toArray) (.int .i64 (q : Int))).run Try.prog w' = .ok (.agg (B8 x).toArray) w' := fun w' => index_path _ p HPA.out Try.underlying41 q hlt x hx w'
        have hb2s := hb2.size
        have hbus := hbu.size
        have ha4 : ∀ o : Obj, (wr.alloc o).cell? ⟨w.heap.size, 0, none⟩ = some (.int .i64 a.id) := fun o => by
          have h := ((ba1.to hb2).but hbu (by intro e; injection e; omega)).to ((Below.refl wr.heap.size wr).alloc (Nat.le_refl _) o)
          exact (acc_cells h).2.1
        have hbit := bit_at k0 q hk256
        rw [← HK0.out] at hbit
        clear hx
        by_cases hev : k0 / 2 ^ q % 2 = 0
        · rw [hev] at hbit
          have HEV := Lib.hid hev
          clear hev
          have CE := Lib.hid (overS_len cur x)
          have HST : Hid (upL p k0 (leafS a) = upL (p.drop (q + 1)) (k0 / 2 ^ (q + 1)) (overS cur x)) := (show _ = _ by rw [hrel.out, upL_step p q k0 x cur HX.out, if_pos HEV.out])
          go_wp2_with (first
            | (refine wpl_store_new rfl _ _ _ rfl 27 _ (B8 x) rfl rfl (by rw [B8_len, HXL.out]; rfl) (info_hash HXL.out) (B8_one _) ?_
               intro w4 b4 hb4
               simp only [Act.put, List.setIfInBounds_toArray, List.set_cons_zero, List.set_cons_succ]
               have bc4 := bc.to hb4
               have hc0 := (acc_cells (((ba1.to hb2).but hbu (by intro e; injection e; omega)).to hb4)).2.1)
            | (refine wpl_load_fld (by rfl) _ _ rfl w1.heap.size 0 rfl (B8 cur) _ bc4.range Try.underlying27 rfl (info_hash HCL.out) ?_)
            | (refine wpl_load_fld (by rfl) _ _ rfl wr.heap.size 0 rfl (B8 x) _ b4.range Try.underlying27 rfl (info_hash HXL.out) ?_))
          refine (above_any cur x HCL.out HXL.out _).mono ?_
          rintro e w5 ⟨rfl, hb5⟩
          have bc5 := bc4.to hb5
          unfold hv
          go_wp2_with (first
            | (refine wpl_store_fld (by rfl) _ _ _ rfl w1.heap.size 0 _ _ (B8 (overS cur x)) rfl _ rfl rfl bc5 (by rw [B8_len, B8_len, CE.out, HCL.out]; decide) (info_hash CE.out) (B8_one _) ?_
               intro w6 bc6 bu6
               rw [put_all _ _ (by rw [B8_len, B8_len, CE.out, HCL.out])] at bc6))
          go_roundw
          case rel => exact ⟨q + 1, overS cur x, by go_num, by omega, CE, HST, bc6, RBut.trans_ _ _ _ _ (RBut.trans_ _ _ _ _ hbu (RBut.trans_ _ _ _ _ (RBut.of_below hb4) (RBut.of_below hb5))) bu6⟩
          case measure => simp [intOf]; omega
        · have hodd : k0 / 2 ^ q % 2 = 1 := by omega
          rw [hodd] at hbit
          have HEV := Lib.hid hev
          clear hev hodd
          have CE := Lib.hid (overS_len x cur)
          have HST : Hid (upL p k0 (leafS a) = upL (p.drop (q + 1)) (k0 / 2 ^ (q + 1)) (overS x cur)) := (show _ = _ by rw [hrel.out, upL_step p q k0 x cur HX.out, if_neg HEV.out])
          go_wp2_with (first
            | (refine wpl_store_new rfl _ _ _ rfl 27 _ (B8 x) rfl rfl (by rw [B8_len, HXL.out]; rfl) (info_hash HXL.out) (B8_one _) ?_
               intro w4 b4 hb4
               simp only [Act.put, List.setIfInBounds_toArray, List.set_cons_zero, List.set_cons_succ]
               have bc4 := bc.to hb4
               have hc0 := (acc_cells (((ba1.to hb2).but hbu (by intro e; injection e; omega)).to hb4)).2.1)
            | (refine wpl_load_fld (by rfl) _ _ rfl w1.heap.size 0 rfl (B8 cur) _ bc4.range Try.underlying27 rfl (info_hash HCL.out) ?_)
            | (refine wpl_load_fld (by rfl) _ _ rfl wr.heap.size 0 rfl (B8 x) _ b4.range Try.underlying27 rfl (info_hash HXL.out) ?_))
          refine (above_any x cur HXL.out HCL.out _).mono ?_
          rintro e w5 ⟨rfl, hb5⟩
          have bc5 := bc4.to hb5
          unfold hv
          go_wp2_with (first
            | (refine wpl_store_fld (by rfl) _ _ _ rfl w1.heap.size 0 _ _ (B8 (overS x cur)) rfl _ rfl rfl bc5 (by rw [B8_len, B8_len, CE.out, HCL.out]; decide) (info_hash CE.out) (B8_one _) ?_
               intro w6 bc6 bu6
               rw [put_all _ _ (by rw [B8_len, B8_len, CE.out, HCL.out])] at bc6))
          go_roundw
          case rel => exact ⟨q + 1, overS x cur, by go_num, by omega, CE, HST, bc6, RBut.trans_ _ _ _ _ (RBut.trans_ _ _ _ _ hbu (RBut.trans_ _ _ _ _ (RBut.of_below hb4) (RBut.of_below hb5))) bu6⟩
          case measure => simp [intOf]; omega
      · obtain rfl : q = 8 := by omega
        have t1 : ¬ (8 : Int) < 8 := by omega
        have HEND : Hid (upA a p = cur) := (show _ = _ by
          rw [HU.out, HK0.out]
          show upL p k0 (leafS a) = cur
          rw [hrel.out, List.drop_eq_nil_of_le (by rw [HPL.out]; exact Nat.le_refl _)]
          rfl)
        have hb2s := hb2.size
        have bz3 := (bz1.to hb2).but hbu (by intro e; injection e; omega)
        have f2 := f1.trans (hb2.mono f1.size)
        have f3 := f2.trans (below_but hbu (by omega) f2.size)
        go_wp2_with (first
          | (refine wpl_load_fld (by rfl) _ _ rfl w1.heap.size 0 rfl (B8 cur) _ bc.range Try.underlying27 rfl (info_hash HCL.out) ?_)
          | (refine wpl_store_fld (by rfl) _ _ _ rfl (w.heap.size + 2) 0 _ _ (B8 cur) rfl _ rfl rfl bz3 (by rw [B8_len, HCL.out]; decide) (info_hash HCL.out) (B8_one _) ?_
             intro w3 bz4 bu4
             rw [put_all _ _ (by rw [B8_len, HCL.out]; rfl)] at bz4))
        exact bodyPost_ret (v := hv cur) (results_blk Try.results26 rfl bz4 Try.underlying27 rfl (info_hash HCL.out)) rfl ⟨by rw [HEND.out], f3.trans (below_but bu4 (by omega) f3.size)⟩
  · have HU : Hid (upA a p = zero32) := (show _ = _ by unfold upA; rw [if_neg hin])
    go_enter Try.func26, Try.ntmps26
    go_upto_region 1 with fail
    refine wp_at HW.out ?_
    clear HW
    go_wp2_with fail
    refine (some_no a.id W hin).mono ?_
    rintro e W' ⟨rfl, rfl⟩
    clear hin
    go_wp2_with (first
      | (refine wpl_build (by rfl) _ _ rfl _ built_zero_ ?_)
      | (refine wpl_store_fld (by rfl) _ _ _ rfl (w.heap.size + 2) 0 _ _ (B8 zero32) rfl _ rfl rfl bz (by decide) (info_hash rfl) (B8_one _) ?_
         intro w3 bz4 bu4
         rw [put_all _ _ rfl] at bz4))
    exact bodyPost_ret (v := hv zero32) (results_blk Try.results26 rfl bz4 Try.underlying27 rfl (info_hash rfl)) rfl ⟨by rw [HU.out], hbw.trans (below_but bu4 (by omega) hbw.size)⟩
end Go.Proofs.Ytakebmpnbdlcoaa
/- Plain law of trees: the empty tree, the tree of one account; what a change does. -/
set_option linter.unusedSimpArgs false
set_option linter.unusedVariables false
namespace Go.Proofs.Ytakebmpnbdlcoaa
theorem halve_rep (m : Nat) : halve (List.replicate (2 * m) zero32) = List.replicate m zero32 := by
  refine List.ext_getElem? fun k => ?_
  unfold halve
  rw [List.getElem?_map, List.length_replicate, List.getElem?_replicate]
  by_cases hk : k < m
  · rw [List.getElem?_range (by omega), if_pos hk]
    simp only [Option.map_some, List.getD_eq_getElem?_getD, List.getElem?_replicate]
    rw [if_pos (by omega), if_pos (by omega)]
    rw [Option.getD_some, overS_zero]
  · rw [if_neg hk, List.getElem?_eq_none (by simp; omega)]
    rfl
theorem lev_rep : ∀ (j k : Nat), lev j (List.replicate (2 ^ (j + k)) zero32) = List.replicate (2 ^ k) zero32
  | 0, k => by rw [Nat.zero_add]; rfl
  | j + 1, k => by
    rw [lev_in, show j + 1 + k = (j + k) + 1 from by omega, Nat.pow_succ, Nat.mul_comm, halve_rep]
    exact lev_rep j k
theorem sib_rep (k i : Nat) (hk : k ≤ 8) : sib k i (List.replicate 256 zero32) = zero32 := by
  have h := lev_rep k (8 - k)
  rw [show k + (8 - k) = 8 from by omega] at h
  unfold sib
  rw [show (256 : Nat) = 2 ^ 8 from rfl, h, List.getD_eq_getElem?_getD, List.getElem?_replicate]
  split <;> rfl
theorem root_nil : rootJ 8 (leavesL []) = zero32 := by
  rw [rootJ_lev]
  exact sib_rep 8 256 (by omega)
theorem prove_rep (i : Nat) : proveJ 8 (List.replicate 256 zero32) i = path0 := by
  unfold proveJ
  rw [List.map_congr_left (g := fun _ => zero32) (fun k hk => sib_rep k i (by have := List.mem_range.1 hk; omega))]
  rfl
theorem root_one (a : Acc) (h : 0 ≤ a.id ∧ a.id < 256) : rootJ 8 (leavesL [a]) = upA a path0 := by
  have e : leavesL [a] = (List.replicate 256 zero32).set a.id.toNat (leafS a) := by
    show setL _ a = _
    unfold setL
    rw [if_pos h]
  have h1 := up_prove 8 (leavesL [a]) a.id.toNat (leavesL_len _) (by have := h.2; show a.id.toNat < 256; omega)
  rw [← h1]
  unfold upA
  rw [if_pos h]
  conv => lhs; rw [e]
  rw [prove_set, prove_rep]
  congr 1
  rw [List.getD_eq_getElem?_getD, List.getElem?_set, if_pos rfl, if_pos (by rw [List.length_replicate]; omega)]
  rfl
theorem known_ne : upA ⟨3, 5, 0, 0⟩ path0 ≠ zero32 := by decide +kernel
/-- the law's own: an account leads to the root by its proof -/
theorem up_own {s : List Acc} (hs : St s) {a : Acc} (h : 0 ≤ a.id ∧ a.id < 256) : upA a (proveS s a.id) = rootJ 8 (leavesL (putS s a)) := by
  rw [leaves_put hs h.1 h.2]
  have hi : a.id.toNat < 256 := by omega
  have h1 := up_prove 8 ((leavesL s).set a.id.toNat (leafS a)) a.id.toNat (by rw [List.length_set, leavesL_len]) hi
  rw [prove_set, List.getD_eq_getElem?_getD, List.getElem?_set, if_pos rfl, if_pos (by rw [leavesL_len]; exact hi)] at h1
  unfold upA proveS
  rw [if_pos h, if_pos h]
  exact h1
theorem put_get {s : List Acc} (hs : St s) {i : Int} (h : 0 ≤ i ∧ i < 256) : putS s (getS s i) = s := by
  have hid : (getS s i).id = i := get_id s i
  refine st_ext _ _ (hs.put (by rw [hid]; exact h.1) (by rw [hid]; exact h.2)) hs fun j => ?_
  rw [get_put hs, hid]
  by_cases hj : j = i
  · rw [if_pos hj, hj]
  · rw [if_neg hj]
theorem up_get {s : List Acc} (hs : St s) {i : Int} (h : 0 ≤ i ∧ i < 256) : upA (getS s i) (proveS s i) = rootJ 8 (leavesL s) := by
  have hid : (getS s i).id = i := get_id s i
  have := up_own hs (a := getS s i) (by rw [hid]; exact h)
  rw [hid, put_get hs h] at this
  exact this
end Go.Proofs.Ytakebmpnbdlcoaa
/- Walks: the document's proofs (capstanref7.Prove). -/
set_option linter.unusedSimpArgs false
set_option linter.unusedVariables false
namespace Go.Proofs.Ytakebmpnbdlcoaa
open Go.RowKit
set_option maxRecDepth 100000
theorem info_rpath {p : List (List UInt8)} (h : p.length = 8) (ha : ∀ x ∈ p, x.length = 32) : (Try.prog.info? 43).map (·.size) = some (H8 p).length := by rw [H8_len p ha, h]; kernel_rfl
theorem zero_rpath : Try.zeroCells43 = (H8 path0).toArray := by kernel_rfl
theorem built_rpath : Try.prog.built 43 [] = some (H8 path0).toArray := by kernel_rfl
theorem xorp_lt (k q : Nat) (hk : k < 256) (hq : q < 8) : (k / 2 ^ q) ^^^ 1 < 2 ^ (8 - q) := by
  have h1 : k / 2 ^ q < 2 ^ (8 - q) := by
    rw [Nat.div_lt_iff_lt_mul (Nat.two_pow_pos q), ← Nat.pow_add, show 8 - q + q = 8 from by omega]
    exact hk
  exact Nat.xor_lt_two_pow h1 (Nat.one_lt_two_pow (by omega))
theorem xor_at (m : Nat) (hm : m < 256) : bits .xor .i64 (m : Int) 1 = ((m ^^^ 1 : Nat) : Int) := xor_i64_nat m 1 (by omega) (by omega)
set_option maxRecDepth 100000 in
set_option maxHeartbeats 4000000 in
theorem refProve_any (A : Option Addr) (n c : Nat) (s : List Acc) (i : Int) (w : World) (sl : Sl w 4 A n (A4 s)) (hlen : s.length = n) (hn : n ≤ 1099511627776) (hwf : ∀ x ∈ s, x.wf) (hi : -9223372036854775808 ≤ i) (hi2 : i < 9223372036854775808) :
    Calls Try.prog 25 #[.slice A n c, .int .i64 i] w fun e w' => e = .returned (pv (proveS s i)) ∧ Below w.heap.size w w' := by
  obtain ⟨W, HW, hbw, bz⟩ : ∃ W, Hid (W = w.alloc (.cells Try.zeroCells43 43)) ∧ Below w.heap.size w W ∧ Blk W w.heap.size 43 (H8 path0) := by
    refine ⟨_, rfl, (Below.refl _ _).alloc (Nat.le_refl _) _, ?_⟩
    have := Blk.new w Try.zeroCells43 43
    rwa [show Try.zeroCells43.toList = H8 path0 from by rw [zero_rpath]] at this
  have HLN := Lib.hid hlen
  have HWF := Lib.hid hwf
  have ip0 := info_rpath (p := path0) rfl (by decide)
  have IP0 := Lib.hid ip0
  have HLN0 : Hid ((H8 path0).length = 256) := (by show _ = _; decide)
  clear hlen hwf ip0
  have hWz := bz.lt
  by_cases hin : 0 ≤ i ∧ i < 256
  · obtain ⟨k0, rfl⟩ : ∃ k : Nat, i = (k : Int) := ⟨i.toNat, by omega⟩
    have hk256 : k0 < 256 := by omega
    have HP : Hid (proveS s (k0 : Int) = proveJ 8 (leavesL s) k0) := (show _ = _ by unfold proveS; rw [if_pos hin]; rfl)
    have t0 : ¬ (k0 : Int) < 0 := by omega
    have t00 : (k0 : Int) < 256 := by omega
    clear hin hi hi2
    go_enter Try.func25, Try.ntmps25
    go_upto_region 1 with fail
    refine wp_at HW.out ?_
    clear HW
    go_wp2_with (first
      | (refine wpl_build (by rfl) _ _ rfl _ built_rpath ?_)
      | (refine wpl_store_new rfl _ _ _ rfl 43 _ (H8 path0) rfl rfl (by rw [HLN0.out]; kernel_rfl) IP0.out (H8_one _) ?_
         intro W1 bp hb1
         simp only [Act.put, List.setIfInBounds_toArray, List.set_cons_zero, List.set_cons_succ]))
    have bz1 := bz.to hb1
    have f1 := hbw.trans (hb1.mono hbw.size)
    have hW1 := bp.lt
    clear bz hb1 hbw
    refine (leaves_any A n c s W1 (sl.to f1) HLN.out hn HWF.out).mono ?_
    rintro e w1 ⟨A1, n1, c1, rfl, ho1, hb1⟩
    have hHL := leavesL_len s
    have hHA := leavesL_all s
    obtain ⟨L, hLe⟩ : ∃ L, leavesL s = L := ⟨_, rfl⟩
    rw [hLe] at ho1 HP hHL hHA
    have HLL := Lib.hid hHL
    have HLA := Lib.hid hHA
    clear hLe hHL hHA
    obtain rfl : 256 = n1 := by
      have h1 := ho1.len
      have h2 := H8_len L HLA.out
      rw [HLL.out] at h2
      omega
    obtain ⟨g, rest, rfl, hg, bk, hlen⟩ := own_row ho1 (by decide)
    have hc := ho1.le
    have bz2 := bz1.to hb1
    have bp2 := bp.to hb1
    have f2 := f1.trans (hb1.mono f1.size)
    have hgz : w.heap.size < g := by omega
    have hgp : W.heap.size < g := by omega
    clear bz1 bp hb1 ho1 hg f1
    go_wp2_with fail
    go_loopw [1, 6, 7] (fun id l k wr => ∃ (q M : Nat) (cur : List (List UInt8)) (rest : List Value), id = .int .i64 ((k0 / 2 ^ q : Nat) : Int) ∧ k = .int .i64 (q : Int) ∧ q ≤ 8 ∧ Hid (M = 2 ^ (8 - q)) ∧ l = .slice (some ⟨g, 0, none⟩) M c1 ∧ M ≤ 256 ∧ Hid (cur.length = M) ∧ Hid (∀ x ∈ cur, x.length = 32) ∧ Hid (lev q L = cur) ∧ Blk wr g 27 (H8 cur ++ rest) ∧ Blk wr w.heap.size 43 (H8 path0) ∧ Blk wr W.heap.size 43 (H8 (halfP L k0 q)) ∧ Below w.heap.size w wr) (fun _ _ k _ => 8 - (intOf k).toNat)
    case atStart => exact ⟨0, 256, L, rest, by rw [Nat.pow_zero, Nat.div_one], rfl, Nat.zero_le _, rfl, rfl, Nat.le_refl _, HLL, HLA, rfl, bk, bz2, bp2, f2⟩
    case round =>
      clear bk bz2 bp2 f2
      obtain ⟨q, L2, cur, rest, rfl, rfl, hq, HLj, rfl, hM256, HCL, HCA, HCU, bk, bz, bp, hf⟩ := hrel
      have hm256 : k0 / 2 ^ q < 256 := Nat.lt_of_le_of_lt (Nat.div_le_self _ _) hk256
      have HQ : ∃ m, m = k0 / 2 ^ q := ⟨_, rfl⟩
      obtain ⟨m, hm⟩ := HQ
      rw [← hm] at hm256 ⊢
      have HMQ := Lib.hid hm
      by_cases hlt : q < 8
      · have t1 : (q : Int) < 8 := by omega
        obtain ⟨M, hM⟩ : ∃ M, M = 2 ^ (8 - (q + 1)) := ⟨_, rfl⟩
        have hLM : L2 = 2 * M := by rw [HLj.out, hM, show 8 - q = (8 - (q + 1)) + 1 from by omega, Nat.pow_succ]; omega
        have HM := Lib.hid hM
        have hxl : m ^^^ 1 < L2 := by rw [HLj.out, hm]; exact xorp_lt k0 q hk256 hlt
        obtain ⟨x0, hx0⟩ : ∃ x, cur[m ^^^ 1]? = some x := ⟨_, List.getElem?_eq_getElem (by rw [HCL.out]; exact hxl)⟩
        have hx32 := HCA.out x0 (List.mem_of_getElem? hx0)
        have hsib : sib q k0 L = x0 := by
          unfold sib
          rw [HCU.out, ← hm, List.getD_eq_getElem?_getD, hx0]
          rfl
        have hpu := put_H8 (halfP L k0 q) [] q x0 (halfP_all HLA.out k0 q) hx32 (by rw [halfP_len L k0 q hq]; omega)
        rw [List.append_nil, List.append_nil, ← hsib, ← halfP_next L k0 q hlt, hsib] at hpu
        have HPU := Lib.hid hpu
        have HLE : Hid (q * 32 + 32 ≤ (H8 (halfP L k0 q)).length) := (by
          show _ ≤ _
          rw [H8_len _ (halfP_all HLA.out k0 q), halfP_len L k0 q hq]
          omega)
        have r0 := bk.sub ((m ^^^ 1) * 32) (B8 x0) (H8_at_ _ HCA.out rest (m ^^^ 1) x0 hx0)
        have HX32 := Lib.hid hx32
        have hbx := xor_at m hm256
        have kx1 : ((m ^^^ 1 : Nat) : Int) < (L2 : Int) := by omega
        have u1 : ((L2 : Nat) : Int) / 2 = (M : Int) := by omega
        have hh : cur.length / 2 = M := by rw [HCL.out]; omega
        have HH := Lib.hid hh
        have l2 : 2 * M ≤ L2 := by omega
        have l3 : L2 ≤ 2 * M := by omega
        clear hM hh hLM hx0 hx32 hsib hpu hm
        go_wp2_with (first
          | (refine wpl_load_fld (by rfl) _ _ rfl g ((m ^^^ 1) * 32) rfl (B8 x0) _ r0 Try.underlying27 rfl (info_hash HX32.out) ?_)
          | (refine wpl_store_fld (by rfl) _ _ _ rfl W.heap.size (q * 32) _ _ (B8 x0) rfl _ rfl rfl bp (by rw [B8_len, HX32.out]; exact HLE.out) (info_hash HX32.out) (B8_one _) ?_
             intro w9 bp9 bu9
             rw [HPU.out] at bp9
             simp only [Act.put, List.setIfInBounds_toArray, List.set_cons_zero, List.set_cons_succ]
             have bk9 := bk.but bu9 (by intro e; injection e; omega)
             have bz9 := bz.but bu9 (by intro e; injection e; omega)
             have f9 := hf.trans (below_but bu9 (by omega) hf.size)))
        have hMM : M ≤ 128 := by omega
        clear bk bz bp hf bu9 kx1 hbx r0 HX32 HPU HLE
        go_loopw [8] (fun i wr => ∃ i' : Nat, i = .int .i64 i' ∧ i' ≤ M ∧ Blk wr g 27 (H8 (part_ cur i') ++ rest) ∧ Blk wr w.heap.size 43 (H8 path0) ∧ Blk wr W.heap.size 43 (H8 (halfP L k0 (q + 1))) ∧ Below w.heap.size w wr) (fun i _ => M - (intOf i).toNat)
        case atStart => exact ⟨0, rfl, Nat.zero_le _, by rw [part_zero]; exact bk9, bz9, bp9, f9⟩
        case round =>
          clear bk9 bz9 bp9 f9
          obtain ⟨i, rfl, hi, bk, bz, bp, hf⟩ := hrel
          by_cases hlt2 : i < M
          · obtain ⟨x, hx⟩ : ∃ x, cur[2 * i]? = some x := ⟨_, List.getElem?_eq_getElem (by rw [HCL.out]; omega)⟩
            obtain ⟨y, hy⟩ : ∃ y, cur[2 * i + 1]? = some y := ⟨_, List.getElem?_eq_getElem (by rw [HCL.out]; omega)⟩
            have xl := HCA.out x (List.mem_of_getElem? hx)
            have yl := HCA.out y (List.mem_of_getElem? hy)
            have pa := part_all cur HCA.out i
            have px : (part_ cur i)[2 * i]? = some x := by rw [part_get cur i (2 * i) (by rw [HH.out]; omega) (by omega)]; exact hx
            have py : (part_ cur i)[2 * i + 1]? = some y := by rw [part_get cur i (2 * i + 1) (by rw [HH.out]; omega) (by omega)]; exact hy
            have pl := part_len cur i (by rw [HH.out]; omega)
            rw [HCL.out] at pl
            have hp := put_H8 (part_ cur i) rest i (overS x y) pa (overS_len x y) (by rw [pl]; omega)
            rw [← part_next cur i (by rw [HH.out]; omega) x y hx hy] at hp
            have rx := (show Blk wr.drew g 27 (H8 (part_ cur i) ++ rest) from bk).sub (2 * i * 32) (B8 x) (H8_at_ _ pa rest (2 * i) x px)
            have ry := (show Blk wr.drew g 27 (H8 (part_ cur i) ++ rest) from bk).sub ((2 * i + 1) * 32) (B8 y) (H8_at_ _ pa rest (2 * i + 1) y py)
            have hlen : (i * 32 + 32 ≤ (H8 (part_ cur i) ++ rest).length) := by
              have := H8_len _ pa
              rw [pl] at this
              rw [List.length_append]
              omega
            have HP := Lib.hid hp
            have HLEN := Lib.hid hlen
            have XL := Lib.hid xl
            have YL := Lib.hid yl
            clear hx hy pa px py pl hp hlen xl yl
            have t2 : (i : Int) < (M : Int) := by omega
            have k1 : IntKind.i64.wrap (2 * (i : Int)) = 2 * (i : Int) := IntWalk.i64_in _ (by omega)
            have k2 : IntKind.i64.wrap (2 * (i : Int) + 1) = 2 * (i : Int) + 1 := IntWalk.i64_in _ (by omega)
            have k3 : 0 ≤ 2 * (i : Int) := by omega
            have k4 : 2 * (i : Int) < (L2 : Int) := by omega
            have k5 : 0 ≤ 2 * (i : Int) + 1 := by omega
            have k6 : 2 * (i : Int) + 1 < (L2 : Int) := by omega
            have k7 : (2 * (i : Int)).toNat = 2 * i := by omega
            have k8 : (2 * (i : Int) + 1).toNat = 2 * i + 1 := by omega
            have k9 : (i : Int) < (L2 : Int) := by omega
            go_wp2_with fail
            refine wp_region_T [0, 1, 2, 3, 4, 5, 7, 8, 9, 10, 11] 6 12 [(12, false), (13, false), (14, false), (15, false)] [(6, false), (13, false), (14, false), (15, false)] (fun _ _ => True) (by kernel_rfl) (by kernel_rfl) (by kernel_rfl) (by decide) (by decide) (fun _ => trivial) (fun _ _ _ _ _ => trivial) (by intro d v c a w h; cases d <;> exact h) ?_
            repeat (first | (refine wpT_quiet (v := ?_) rfl (by rfl) ?_ ?_; rotate_left; (· (intro w' hw'; go_simp; try with_reducible rfl)); simp only [Act.put, List.setIfInBounds_toArray, List.set_cons_zero, List.set_cons_succ]) | (refine wpT_skip rfl (by rfl) ?_; simp only [Act.put, List.setIfInBounds_toArray, List.set_cons_zero, List.set_cons_succ]))
            refine wpT_nil ?_ ?_
            · refine wpC_load_f (fun _ => trivial) rfl (by rfl) _ _ rfl g (2 * i * 32) rfl (B8 x) _ rx Try.underlying27 rfl (info_hash XL.out) ?_
              simp only [Act.put, List.setIfInBounds_toArray, List.set_cons_zero, List.set_cons_succ]
              refine wpC_load_f (fun _ => trivial) rfl (by rfl) _ _ rfl g ((2 * i + 1) * 32) rfl (B8 y) _ ry Try.underlying27 rfl (info_hash YL.out) ?_
              simp only [Act.put, List.setIfInBounds_toArray, List.set_cons_zero, List.set_cons_succ]
              clear rx ry
              (refine wpC_loud rfl (by rfl) ?_; intro K hK; go_simp)
              refine (refOver_any x y XL.out YL.out _).mono ?_
              rintro e w2 ⟨rfl, hb2⟩
              (refine hK.out _ _ (trivial) ?_; clear hK K; try simp only [Act.put, List.setIfInBounds_toArray, List.set_cons_zero, List.set_cons_succ])
              unfold hv
              have bk2 := Blk.to (w := wr.drew) bk hb2
              have bz2 := Blk.to (w := wr.drew) bz hb2
              have bp2 := Blk.to (w := wr.drew) bp hb2
              have f2 := hf.drew.trans (hb2.mono hf.drew.size)
              repeat (first | (refine wpC_quiet (v := ?_) rfl (by rfl) ?_ ?_; rotate_left; (· (intro w' hw'; go_simp; try with_reducible rfl)); simp only [Act.put, List.setIfInBounds_toArray, List.set_cons_zero, List.set_cons_succ]) | (refine wpC_val (v := ?_) (fun _ => trivial) rfl (by rfl) ?_ ?_; rotate_left; (· (go_simp; try with_reducible rfl)); simp only [Act.put, List.setIfInBounds_toArray, List.set_cons_zero, List.set_cons_succ]) | (refine wpC_skip rfl (by rfl) ?_; simp only [Act.put, List.setIfInBounds_toArray, List.set_cons_zero, List.set_cons_succ]) | (refine wpC_skip' (fun _ => trivial) rfl (by rfl) ?_; simp only [Act.put, List.setIfInBounds_toArray, List.set_cons_zero, List.set_cons_succ]))
              refine wpC_store_fld rfl (by rfl) _ _ _ rfl g (i * 32) _ _ (B8 (overS x y)) rfl _ rfl rfl bk2 (by rw [B8_len, overS_len]; exact HLEN.out) (info_hash (overS_len x y)) (B8_one _) (fun _ _ => trivial) ?_
              intro w3 bk3 bu3
              rw [HP.out] at bk3
              have bz3 := bz2.but bu3 (by simp; omega)
              have bp3 := bp2.but bu3 (by simp; omega)
              have f3 := f2.trans (below_but bu3 (by omega) f2.size)
              clear bk bz bp hf hb2 bk2 bz2 bp2 f2 bu3 k1 k2 k3 k4 k5 k6 k7 k8 k9
              simp only [Act.put, List.setIfInBounds_toArray, List.set_cons_zero, List.set_cons_succ]
              refine wpC_nil ?_
              go_wp2_with fail
              go_roundw
              case rel => exact ⟨i + 1, by go_num, by omega, bk3, bz3, bp3, f3⟩
              case measure => simp [intOf]; omega
            · refine wpC_load_f (fun _ => trivial) rfl (by rfl) _ _ rfl g ((2 * i + 1) * 32) rfl (B8 y) _ ry Try.underlying27 rfl (info_hash YL.out) ?_
              simp only [Act.put, List.setIfInBounds_toArray, List.set_cons_zero, List.set_cons_succ]
              refine wpC_load_f (fun _ => trivial) rfl (by rfl) _ _ rfl g (2 * i * 32) rfl (B8 x) _ rx Try.underlying27 rfl (info_hash XL.out) ?_
              simp only [Act.put, List.setIfInBounds_toArray, List.set_cons_zero, List.set_cons_succ]
              clear rx ry
              (refine wpC_loud rfl (by rfl) ?_; intro K hK; go_simp)
              refine (refOver_any x y XL.out YL.out _).mono ?_
              rintro e w2 ⟨rfl, hb2⟩
              (refine hK.out _ _ (trivial) ?_; clear hK K; try simp only [Act.put, List.setIfInBounds_toArray, List.set_cons_zero, List.set_cons_succ])
              unfold hv
              have bk2 := Blk.to (w := wr.drew) bk hb2
              have bz2 := Blk.to (w := wr.drew) bz hb2
              have bp2 := Blk.to (w := wr.drew) bp hb2
              have f2 := hf.drew.trans (hb2.mono hf.drew.size)
              repeat (first | (refine wpC_quiet (v := ?_) rfl (by rfl) ?_ ?_; rotate_left; (· (intro w' hw'; go_simp; try with_reducible rfl)); simp only [Act.put, List.setIfInBounds_toArray, List.set_cons_zero, List.set_cons_succ]) | (refine wpC_val (v := ?_) (fun _ => trivial) rfl (by rfl) ?_ ?_; rotate_left; (· (go_simp; try with_reducible rfl)); simp only [Act.put, List.setIfInBounds_toArray, List.set_cons_zero, List.set_cons_succ]) | (refine wpC_skip rfl (by rfl) ?_; simp only [Act.put, List.setIfInBounds_toArray, List.set_cons_zero, List.set_cons_succ]) | (refine wpC_skip' (fun _ => trivial) rfl (by rfl) ?_; simp only [Act.put, List.setIfInBounds_toArray, List.set_cons_zero, List.set_cons_succ]))
              refine wpC_store_fld rfl (by rfl) _ _ _ rfl g (i * 32) _ _ (B8 (overS x y)) rfl _ rfl rfl bk2 (by rw [B8_len, overS_len]; exact HLEN.out) (info_hash (overS_len x y)) (B8_one _) (fun _ _ => trivial) ?_
              intro w3 bk3 bu3
              rw [HP.out] at bk3
              have bz3 := bz2.but bu3 (by simp; omega)
              have bp3 := bp2.but bu3 (by simp; omega)
              have f3 := f2.trans (below_but bu3 (by omega) f2.size)
              clear bk bz bp hf hb2 bk2 bz2 bp2 f2 bu3 k1 k2 k3 k4 k5 k6 k7 k8 k9
              simp only [Act.put, List.setIfInBounds_toArray, List.set_cons_zero, List.set_cons_succ]
              refine wpC_nil ?_
              go_wp2_with fail
              go_roundw
              case rel => exact ⟨i + 1, by go_num, by omega, bk3, bz3, bp3, f3⟩
              case measure => simp [intOf]; omega

          · obtain rfl : M = i := by omega
            have hpe := part_end cur
            rw [HH.out] at hpe
            rw [hpe, H8_app, List.append_assoc] at bk
            have hhl := halve_len cur
            rw [HH.out] at hhl
            have HHL := Lib.hid hhl
            have HLV : Hid (lev (q + 1) L = halve cur) := (show halve (lev q L) = _ by rw [HCU.out])
            have hmm : ((m : Int)) / 2 = ((k0 / 2 ^ (q + 1) : Nat) : Int) := by
              rw [HMQ.out, Nat.pow_succ, ← Nat.div_div_eq_div_mul]
              rfl
            have HMM := Lib.hid hmm
            clear hpe hhl hmm
            go_wp2_with fail
            go_roundw
            case rel => exact ⟨q + 1, M, halve cur, _, by rw [← HMM.out], by go_num, by omega, HM, rfl, by omega, HHL, halve_all cur, HLV, bk, bz, bp, hf⟩
            case measure => simp [intOf]; omega
      · obtain rfl : q = 8 := by omega
        have t1 : ¬ (8 : Int) < 8 := by omega
        rw [halfP_end] at bp
        have IPP := Lib.hid (info_rpath (proveJ_len 8 L k0) (proveJ_all HLA.out 8 k0))
        have HLN2 : Hid ((H8 (proveJ 8 L k0)).length = 256) := (by show _ = _; rw [H8_len _ (proveJ_all HLA.out 8 k0), proveJ_len])
        obtain ⟨pp, hpp⟩ : ∃ pp, proveJ 8 L k0 = pp := ⟨_, rfl⟩
        rw [hpp] at bp IPP HLN2 HP
        clear hpp hm
        go_wp2_with (first
          | (refine wpl_load_fld (by rfl) _ _ rfl W.heap.size 0 rfl (H8 pp) _ bp.range Try.underlying43 rfl IPP.out ?_)
          | (refine wpl_store_fld (by rfl) _ _ _ rfl w.heap.size 0 _ _ (H8 pp) rfl _ rfl rfl bz (by rw [HLN2.out]; decide) IPP.out (H8_one _) ?_
             intro w3 bz3 bu3
             rw [put_all _ _ (by rw [HLN2.out]; rfl)] at bz3))
        exact bodyPost_ret (v := pv pp) (results_blk Try.results25 rfl bz3 Try.underlying43 rfl IPP.out) rfl ⟨by rw [HP.out], hf.trans (below_but bu3 (Nat.le_refl _) hf.size)⟩
  · have HP : Hid (proveS s i = path0) := (show _ = _ by unfold proveS; rw [if_neg hin])
    have hc : i < 0 ∨ ¬ i < 0 ∧ ¬ i < 256 := by omega
    clear hin
    go_enter Try.func25, Try.ntmps25
    go_upto_region 1 with fail
    refine wp_at HW.out ?_
    clear HW
    rcases hc with h1 | ⟨h1, h2⟩
    all_goals
      go_wp2_with (first
        | (refine wpl_build (by rfl) _ _ rfl _ built_rpath ?_)
        | (refine wpl_store_new rfl _ _ _ rfl 43 _ (H8 path0) rfl rfl (by rw [HLN0.out]; kernel_rfl) IP0.out (H8_one _) ?_
           intro W1 bp hb1
           simp only [Act.put, List.setIfInBounds_toArray, List.set_cons_zero, List.set_cons_succ]
           have bz1 := bz.to hb1
           have f1 := hbw.trans (hb1.mono hbw.size))
        | (refine wpl_load_fld (by rfl) _ _ rfl W.heap.size 0 rfl (H8 path0) _ bp.range Try.underlying43 rfl IP0.out ?_)
        | (refine wpl_store_fld (by rfl) _ _ _ rfl w.heap.size 0 _ _ (H8 path0) rfl _ rfl rfl bz1 (by rw [HLN0.out]; decide) IP0.out (H8_one _) ?_
           intro w3 bz3 bu3
           rw [put_all _ _ rfl] at bz3))
      exact bodyPost_ret (v := pv path0) (results_blk Try.results25 rfl bz3 Try.underlying43 rfl IP0.out) rfl ⟨by rw [HP.out], f1.trans (below_but bu3 (Nat.le_refl _) f1.size)⟩
end Go.Proofs.Ytakebmpnbdlcoaa
