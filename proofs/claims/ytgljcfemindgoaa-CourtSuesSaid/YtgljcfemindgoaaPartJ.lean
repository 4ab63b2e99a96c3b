/- The texts of this claim, part J: words, plain laws, walks. -/
import Derived.Test.YtgljcfemindgoaaPartC
import Derived.Test.YtgljcfemindgoaaPartE
import Derived.Test.YtgljcfemindgoaaPartH
import Derived.Test.YtgljcfemindgoaaPartG
import Derived.Test.YtgljcfemindgoaaPartI
import Derived.Test.YtgljcfemindgoaaPartF
/- The walks of capstanlaw16's within and known. -/
set_option linter.unusedSimpArgs false
set_option linter.unusedVariables false
namespace Go.Proofs.Ytgljcfemindgoaa
open Go.RowKit
set_option maxRecDepth 100000
/-- a sum of one byte, and noughts -/
def one_ (x : UInt8) : List UInt8 := x :: List.replicate 31 0
theorem one_len (x : UInt8) : (one_ x).length = 32 := by simp [one_]
theorem built_one1 : Try.prog.built 25 [(0, .int .u8 1)] = some (B8 (one_ 1)).toArray := by kernel_rfl
theorem built_one2 : Try.prog.built 25 [(0, .int .u8 2)] = some (B8 (one_ 2)).toArray := by kernel_rfl
theorem built_one3 : Try.prog.built 25 [(0, .int .u8 3)] = some (B8 (one_ 3)).toArray := by kernel_rfl
end Go.Proofs.Ytgljcfemindgoaa
/- Walks: the law's known example, its hall. -/
set_option linter.unusedSimpArgs false
set_option linter.unusedVariables false
namespace Go.Proofs.Ytgljcfemindgoaa
open Go.RowKit
set_option maxRecDepth 100000
theorem within_capstanlaw17 (a n : Int) (w : World) (hn : 0 < n) (hn2 : n < 1099511627776) (ha : -9223372036854775808 ≤ a) (ha2 : a < 9223372036854775808) :
    Calls Try.prog 10 #[.int .i64 a, .int .i64 n] w fun e w' => e = .returned (.int .i64 (a % n)) ∧ w = w' := by
  have e1 : a % n = if a.tmod n < 0 then a.tmod n + n else a.tmod n := by
    rw [Int.tmod_eq_emod]
    have := Int.emod_nonneg a (show n ≠ 0 by omega)
    have := Int.emod_lt_of_pos a hn
    have hnn : (n.natAbs : Int) = n := by omega
    split <;> split <;> omega
  have b1 : -n < a.tmod n := by have := Int.lt_tmod_of_pos a hn; omega
  have b2 : a.tmod n < n := Int.tmod_lt_of_pos a hn
  have H := Lib.hid e1
  clear e1
  by_cases h : a.tmod n < 0
  · go_enter Try.func10, Try.ntmps10
    go_wp2
    go_ret
    exact ⟨ret_int (by rw [H.out, if_pos h]), rfl⟩
  · go_enter Try.func10, Try.ntmps10
    go_wp2
    go_ret
    exact ⟨ret_int (by rw [H.out, if_neg (Int.not_lt.2 h)]), rfl⟩
theorem builtC1 : Try.prog.built 25 [(0, .int .u8 1)] = some (B8 (one_ 1)).toArray := by kernel_rfl
theorem builtC2 : Try.prog.built 25 [(0, .int .u8 2)] = some (B8 (one_ 2)).toArray := by kernel_rfl
theorem builtC3 : Try.prog.built 25 [(0, .int .u8 3)] = some (B8 (one_ 3)).toArray := by kernel_rfl
theorem builtC4 : Try.prog.built 25 [(0, .int .u8 4)] = some (B8 (one_ 4)).toArray := by kernel_rfl
theorem builtC9 : Try.prog.built 25 [(0, .int .u8 9)] = some (B8 (one_ 9)).toArray := by kernel_rfl
theorem cell_next {C : Nat} {w' w'' : World} {v : Value} {c : CO} (h : CoX [C] w' v c) (hr : RBut (some C) w' w'') : CoX [] w'' v c := (h.but hr (by simp)).less (fun _ h => by cases h)
def newCO (e : Int) : CO := ⟨0, one_ 1, [], List.replicate 8 e, []⟩
theorem newCO_ok (e : Int) : (newCO e).ok := ⟨rfl, fun _ h => (by cases h), Nat.zero_le _, rfl, fun _ h => (by cases h), Nat.zero_le _⟩
def hallC (e : Int) (l : List (List UInt8)) : CO := ⟨0, one_ 1, l, List.replicate 8 e, []⟩
theorem hallC_ok (e : Int) (l : List (List UInt8)) (h : ∀ x ∈ l, x.length = 32) (hn : l.length ≤ 500) : (hallC e l).ok := ⟨rfl, h, by show l.length ≤ _; omega, rfl, fun _ h => (by cases h), Nat.zero_le _⟩
set_option maxRecDepth 100000 in
set_option maxHeartbeats 4000000 in
theorem hall_any (e : Int) (n : Nat) (h0 : 0 ≤ e) (h1 : e ≤ 10000) (hn : n ≤ 500) (w : World) :
    Calls Try.prog 11 #[.int .i64 e, .int .i64 n] w fun en w' => ∃ v, en = .returned v ∧ (∀ S : List Nat, (∀ b ∈ S, b < w.heap.size) → CoX S w' v (hallC e (hashL n))) ∧ Below w.heap.size w w' := by
  obtain ⟨W, HW, hbw, bz⟩ : ∃ W, Hid (W = w.alloc (.cells #[.int .i64 0, .int .u8 0, .int .u8 0, .int .u8 0, .int .u8 0, .int .u8 0, .int .u8 0, .int .u8 0, .int .u8 0, .int .u8 0, .int .u8 0, .int .u8 0, .int .u8 0, .int .u8 0, .int .u8 0, .int .u8 0, .int .u8 0, .int .u8 0, .int .u8 0, .int .u8 0, .int .u8 0, .int .u8 0, .int .u8 0, .int .u8 0, .int .u8 0, .int .u8 0, .int .u8 0, .int .u8 0, .int .u8 0, .int .u8 0, .int .u8 0, .int .u8 0, .int .u8 0, .slice none 0 0, .int .i64 0, .int .i64 0, .int .i64 0, .int .i64 0, .int .i64 0, .int .i64 0, .int .i64 0, .int .i64 0, .slice none 0 0] 30)) ∧ Below w.heap.size w W ∧ Blk W w.heap.size 30 zeroCC :=
    ⟨_, rfl, (Below.refl _ _).alloc (Nat.le_refl _) _, Blk.new w #[.int .i64 0, .int .u8 0, .int .u8 0, .int .u8 0, .int .u8 0, .int .u8 0, .int .u8 0, .int .u8 0, .int .u8 0, .int .u8 0, .int .u8 0, .int .u8 0, .int .u8 0, .int .u8 0, .int .u8 0, .int .u8 0, .int .u8 0, .int .u8 0, .int .u8 0, .int .u8 0, .int .u8 0, .int .u8 0, .int .u8 0, .int .u8 0, .int .u8 0, .int .u8 0, .int .u8 0, .int .u8 0, .int .u8 0, .int .u8 0, .int .u8 0, .int .u8 0, .int .u8 0, .slice none 0 0, .int .i64 0, .int .i64 0, .int .i64 0, .int .i64 0, .int .i64 0, .int .i64 0, .int .i64 0, .int .i64 0, .slice none 0 0] 30⟩
  have hWz := bz.lt
  go_enter Try.func11, Try.ntmps11
  go_upto_region 1 with fail
  refine wp_at HW.out ?_
  clear HW
  go_wp2_with (first
    | (refine wpl_build (by rfl) _ _ rfl _ (by exact builtC1) ?_))
  refine (newC_any (one_ 1) rfl e h0 h1 W).mono ?_
  rintro en w1 ⟨v1, rfl, hs1, hb1⟩
  obtain ⟨vt1, vc1, rfl, ht1, hc1⟩ := hs1 [] (fun _ h => by cases h)
  have bz1 := bz.to hb1
  have f1 := hbw.trans (hb1.mono hbw.size)
  have o1t := ht1.one
  have o1c := hc1.one
  have I1 := Lib.hid (info_co (vt := vt1) (vc := vc1) (c := newCO e) rfl rfl)
  have L1 : Hid ((coC vt1 vc1 (newCO e)).length = 43) := Lib.hid (coC_len (c := newCO e) rfl rfl)
  clear hs1 bz hb1

  go_wp2_with (first
    | (refine wpl_store_new rfl _ _ _ rfl 30 _ (coC vt1 vc1 (newCO e)) rfl rfl (by rw [L1.out]; rfl) I1.out (coC_one o1t o1c) ?_
       intro w2 b2 hb2
       simp only [Act.put, List.setIfInBounds_toArray, List.set_cons_zero, List.set_cons_succ]))
  have bz2 := bz1.to hb2
  have f2 := f1.trans (hb2.mono f1.size)
  have hX2 : CoX [] w2 (.agg (coC vt1 vc1 (newCO e)).toArray) (newCO e) := CoX.to (c := newCO e) ⟨vt1, vc1, rfl, ht1, hc1⟩ hb2
  obtain ⟨C, hC⟩ : ∃ C, w1.heap.size = C := ⟨_, rfl⟩
  have hwC : w.heap.size < C := by rw [← hC]; exact bz1.lt
  rw [hC] at b2 ⊢
  clear hC bz1 f1 ht1 hc1 hb2 hWz
  refine wp_region_P (.take 1 (.two 0 (.one 2 (.one 3 (.take 4 (.take 5 (.take 6 (.one 7 .done)))))) 2 (.one 0 (.one 3 (.take 4 (.take 5 (.take 6 (.one 7 .done)))))))) (RBut (some C)) (by kernel_rfl) (by kernel_rfl) (by kernel_rfl) (by decide +kernel) (RBut.refl_ _) (RBut.trans_ _) (by intro d v c a w h; first | (cases d <;> exact h) | exact absurd h.1 (by simp)) ?_
  have bcv : Blk w2.drew C 30 (coC vt1 vc1 (newCO e)) := b2
  have bzv : Blk w2.drew w.heap.size 30 zeroCC := bz2
  have hXv : CoX [] w2.drew (.agg (coC vt1 vc1 (newCO e)).toArray) (newCO e) := hX2.drew
  have fw : Below w.heap.size w w2.drew := f2.drew
  clear b2 bz2 hX2 f2
  have HCW : Hid (w.heap.size < w2.drew.heap.size) := bzv.lt
  have HCW2 : Hid (w.heap.size < C) := hwC
  generalize w2.drew = V0 at *
  have fv : Below V0.heap.size V0 V0 := Below.refl _ _
  first | (refine wpP_quiet (v := ?_) rfl (by rfl) ?_ ?_; rotate_left; (· (intro w' hw'; go_simp; try with_reducible rfl)); simp only [Act.put, List.setIfInBounds_toArray, List.set_cons_zero, List.set_cons_succ]) | (refine wpP_skip rfl (by rfl) ?_; simp only [Act.put, List.setIfInBounds_toArray, List.set_cons_zero, List.set_cons_succ])
  refine wpP_two ?_ ?_
  · refine wpP_loud rfl (by rfl) ?_
    intro K hK
    refine wp_load_mid _ _ rfl C 0 rfl (coC vt1 vc1 (newCO e)) _ bcv.range Try.underlying30 rfl I1.out ?_
    refine hK.out _ _ (RBut.refl_ _ _) ?_
    clear hK K
    try simp only [Act.put, List.setIfInBounds_toArray, List.set_cons_zero, List.set_cons_succ]
    refine wpP_one ?_
    refine wpP_loud rfl (by rfl) ?_
    intro K hK
    go_simp
    refine (hashes_any n _ (by omega)).mono ?_
    rintro en Vn ⟨Ah, ch, rfl, hoh, hbh⟩
    refine hK.out _ _ (RBut.of_below hbh) ?_
    clear hK K
    try simp only [Act.put, List.setIfInBounds_toArray, List.set_cons_zero, List.set_cons_succ]
    replace bcv := bcv.to hbh
    replace hXv := hXv.to hbh
    replace fv := fv.trans (hbh.mono fv.size)
    refine wpP_one ?_
    refine wpP_loud rfl (by rfl) ?_
    intro K hK
    go_simp
    refine (addC_any _ (newCO e) (newCO_ok e) Ah n ch (hashL n) (hashL_all n) Vn hoh.sl (hashL_len n) (by show 0 + n ≤ 500; omega) hXv).mono ?_
    rintro en Vm ⟨v3, rfl, hs3, hb3⟩
    have hCV := bcv.lt
    have hVV := fv.size
    obtain ⟨vt3, vc3, rfl, ht3, hc3⟩ := hs3 [C] (fun b hb => by rw [List.mem_singleton.1 hb]; exact bcv.lt)
    refine hK.out _ _ (RBut.of_below hb3) ?_
    clear hK K
    try simp only [Act.put, List.setIfInBounds_toArray, List.set_cons_zero, List.set_cons_succ]
    replace bcv := bcv.to hb3
    replace fv := fv.trans (hb3.mono fv.size)
    have o3t := ht3.one
    have o3c := hc3.one
    have I3 := Lib.hid (info_co (vt := vt3) (vc := vc3) (c := hallC e (hashL n)) rfl rfl)
    have L3 : Hid ((coC vt3 vc3 (hallC e (hashL n))).length = 43) := Lib.hid (coC_len (c := hallC e (hashL n)) rfl rfl)
    first | (refine wpP_quiet (v := ?_) rfl (by rfl) ?_ ?_; rotate_left; (· (intro w' hw'; go_simp; try with_reducible rfl)); simp only [Act.put, List.setIfInBounds_toArray, List.set_cons_zero, List.set_cons_succ]) | (refine wpP_skip rfl (by rfl) ?_; simp only [Act.put, List.setIfInBounds_toArray, List.set_cons_zero, List.set_cons_succ])
    first | (refine wpP_quiet (v := ?_) rfl (by rfl) ?_ ?_; rotate_left; (· (intro w' hw'; go_simp; try with_reducible rfl)); simp only [Act.put, List.setIfInBounds_toArray, List.set_cons_zero, List.set_cons_succ]) | (refine wpP_skip rfl (by rfl) ?_; simp only [Act.put, List.setIfInBounds_toArray, List.set_cons_zero, List.set_cons_succ])
    first | (refine wpP_quiet (v := ?_) rfl (by rfl) ?_ ?_; rotate_left; (· (intro w' hw'; go_simp; try with_reducible rfl)); simp only [Act.put, List.setIfInBounds_toArray, List.set_cons_zero, List.set_cons_succ]) | (refine wpP_skip rfl (by rfl) ?_; simp only [Act.put, List.setIfInBounds_toArray, List.set_cons_zero, List.set_cons_succ])
    refine wpP_one ?_
    refine wpP_loud rfl (by rfl) ?_
    intro K hK
    refine wp_store_fld _ _ _ rfl C 0 _ _ (coC vt3 vc3 (hallC e (hashL n))) rfl _ rfl rfl bcv (by rw [L1.out, L3.out]; exact Nat.le_refl _) I3.out (coC_one o3t o3c) ?_
    intro V4 b4 bu4
    rw [put_all _ _ (by rw [L1.out, L3.out])] at b4
    refine hK.out _ _ bu4 ?_
    clear hK K
    try simp only [Act.put, List.setIfInBounds_toArray, List.set_cons_zero, List.set_cons_succ]
    refine wpP_done ?_
    have HS4 : Hid (∀ S : List Nat, (∀ b ∈ S, b < w.heap.size + 1) → CoX S V4 (.agg (coC vt3 vc3 (hallC e (hashL n))).toArray) (hallC e (hashL n))) := (show ∀ S : List Nat, (∀ b ∈ S, b < w.heap.size + 1) → CoX S V4 (.agg (coC vt3 vc3 (hallC e (hashL n))).toArray) (hallC e (hashL n)) from fun S hS =>
      CoX.less (S := C :: S) (CoX.but (hs3 (C :: S) (fun b hb => (List.mem_cons.1 hb).elim (fun h => by omega) (fun h => by have := hS b h; have := HCW.out; omega))) bu4 (by simp)) (fun b hb => List.mem_cons_of_mem _ hb))
    have bz4 : Blk V4 w.heap.size 30 zeroCC := (bzv.below fv HCW.out).but bu4 (by intro e; injection e with e; have := HCW2.out; omega)
    have f4 := (fw.trans (fv.mono fw.size)).trans (below_but bu4 (Nat.le_of_lt HCW2.out) (Nat.le_trans fw.size fv.size))
    clear hs3 ht3 hc3 hCV hVV bzv hXv fw fv
    go_wp2_with (first
      | (refine wpl_load_fld (by rfl) _ _ rfl C 0 rfl (coC vt3 vc3 (hallC e (hashL n))) _ b4.range Try.underlying30 rfl I3.out ?_)
      | (refine wpl_store_fld (by rfl) _ _ _ rfl w.heap.size 0 _ _ (coC vt3 vc3 (hallC e (hashL n))) rfl _ rfl rfl bz4 (by rw [L3.out]; exact Nat.le_refl _) I3.out (coC_one o3t o3c) ?_
         intro V5 bz5 bu5
         rw [put_all _ _ (by rw [L3.out]; rfl)] at bz5))
    refine bodyPost_ret (v := .agg (coC vt3 vc3 (hallC e (hashL n))).toArray) (results_blk Try.results11 rfl bz5 Try.underlying30 rfl I3.out) rfl ?_
    exact ⟨_, rfl, fun S hS => CoX.less (S := w.heap.size :: S) (CoX.but (HS4.out (w.heap.size :: S) (fun b hb => (List.mem_cons.1 hb).elim (fun h => by omega) (fun h => by have := hS b h; omega))) bu5 (by simp)) (fun b hb => List.mem_cons_of_mem _ hb), f4.trans (below_but bu5 (Nat.le_refl _) f4.size)⟩
  · refine wpP_loud rfl (by rfl) ?_
    intro K hK
    go_simp
    refine (hashes_any n _ (by omega)).mono ?_
    rintro en Vn ⟨Ah, ch, rfl, hoh, hbh⟩
    refine hK.out _ _ (RBut.of_below hbh) ?_
    clear hK K
    try simp only [Act.put, List.setIfInBounds_toArray, List.set_cons_zero, List.set_cons_succ]
    replace bcv := bcv.to hbh
    replace hXv := hXv.to hbh
    replace fv := fv.trans (hbh.mono fv.size)
    refine wpP_one ?_
    refine wpP_loud rfl (by rfl) ?_
    intro K hK
    refine wp_load_mid _ _ rfl C 0 rfl (coC vt1 vc1 (newCO e)) _ bcv.range Try.underlying30 rfl I1.out ?_
    refine hK.out _ _ (RBut.refl_ _ _) ?_
    clear hK K
    try simp only [Act.put, List.setIfInBounds_toArray, List.set_cons_zero, List.set_cons_succ]
    refine wpP_one ?_
    refine wpP_loud rfl (by rfl) ?_
    intro K hK
    go_simp
    refine (addC_any _ (newCO e) (newCO_ok e) Ah n ch (hashL n) (hashL_all n) Vn hoh.sl (hashL_len n) (by show 0 + n ≤ 500; omega) hXv).mono ?_
    rintro en Vm ⟨v3, rfl, hs3, hb3⟩
    have hCV := bcv.lt
    have hVV := fv.size
    obtain ⟨vt3, vc3, rfl, ht3, hc3⟩ := hs3 [C] (fun b hb => by rw [List.mem_singleton.1 hb]; exact bcv.lt)
    refine hK.out _ _ (RBut.of_below hb3) ?_
    clear hK K
    try simp only [Act.put, List.setIfInBounds_toArray, List.set_cons_zero, List.set_cons_succ]
    replace bcv := bcv.to hb3
    replace fv := fv.trans (hb3.mono fv.size)
    have o3t := ht3.one
    have o3c := hc3.one
    have I3 := Lib.hid (info_co (vt := vt3) (vc := vc3) (c := hallC e (hashL n)) rfl rfl)
    have L3 : Hid ((coC vt3 vc3 (hallC e (hashL n))).length = 43) := Lib.hid (coC_len (c := hallC e (hashL n)) rfl rfl)
    first | (refine wpP_quiet (v := ?_) rfl (by rfl) ?_ ?_; rotate_left; (· (intro w' hw'; go_simp; try with_reducible rfl)); simp only [Act.put, List.setIfInBounds_toArray, List.set_cons_zero, List.set_cons_succ]) | (refine wpP_skip rfl (by rfl) ?_; simp only [Act.put, List.setIfInBounds_toArray, List.set_cons_zero, List.set_cons_succ])
    first | (refine wpP_quiet (v := ?_) rfl (by rfl) ?_ ?_; rotate_left; (· (intro w' hw'; go_simp; try with_reducible rfl)); simp only [Act.put, List.setIfInBounds_toArray, List.set_cons_zero, List.set_cons_succ]) | (refine wpP_skip rfl (by rfl) ?_; simp only [Act.put, List.setIfInBounds_toArray, List.set_cons_zero, List.set_cons_succ])
    first | (refine wpP_quiet (v := ?_) rfl (by rfl) ?_ ?_; rotate_left; (· (intro w' hw'; go_simp; try with_reducible rfl)); simp only [Act.put, List.setIfInBounds_toArray, List.set_cons_zero, List.set_cons_succ]) | (refine wpP_skip rfl (by rfl) ?_; simp only [Act.put, List.setIfInBounds_toArray, List.set_cons_zero, List.set_cons_succ])
    refine wpP_one ?_
    refine wpP_loud rfl (by rfl) ?_
    intro K hK
    refine wp_store_fld _ _ _ rfl C 0 _ _ (coC vt3 vc3 (hallC e (hashL n))) rfl _ rfl rfl bcv (by rw [L1.out, L3.out]; exact Nat.le_refl _) I3.out (coC_one o3t o3c) ?_
    intro V4 b4 bu4
    rw [put_all _ _ (by rw [L1.out, L3.out])] at b4
    refine hK.out _ _ bu4 ?_
    clear hK K
    try simp only [Act.put, List.setIfInBounds_toArray, List.set_cons_zero, List.set_cons_succ]
    refine wpP_done ?_
    have HS4 : Hid (∀ S : List Nat, (∀ b ∈ S, b < w.heap.size + 1) → CoX S V4 (.agg (coC vt3 vc3 (hallC e (hashL n))).toArray) (hallC e (hashL n))) := (show ∀ S : List Nat, (∀ b ∈ S, b < w.heap.size + 1) → CoX S V4 (.agg (coC vt3 vc3 (hallC e (hashL n))).toArray) (hallC e (hashL n)) from fun S hS =>
      CoX.less (S := C :: S) (CoX.but (hs3 (C :: S) (fun b hb => (List.mem_cons.1 hb).elim (fun h => by omega) (fun h => by have := hS b h; have := HCW.out; omega))) bu4 (by simp)) (fun b hb => List.mem_cons_of_mem _ hb))
    have bz4 : Blk V4 w.heap.size 30 zeroCC := (bzv.below fv HCW.out).but bu4 (by intro e; injection e with e; have := HCW2.out; omega)
    have f4 := (fw.trans (fv.mono fw.size)).trans (below_but bu4 (Nat.le_of_lt HCW2.out) (Nat.le_trans fw.size fv.size))
    clear hs3 ht3 hc3 hCV hVV bzv hXv fw fv
    go_wp2_with (first
      | (refine wpl_load_fld (by rfl) _ _ rfl C 0 rfl (coC vt3 vc3 (hallC e (hashL n))) _ b4.range Try.underlying30 rfl I3.out ?_)
      | (refine wpl_store_fld (by rfl) _ _ _ rfl w.heap.size 0 _ _ (coC vt3 vc3 (hallC e (hashL n))) rfl _ rfl rfl bz4 (by rw [L3.out]; exact Nat.le_refl _) I3.out (coC_one o3t o3c) ?_
         intro V5 bz5 bu5
         rw [put_all _ _ (by rw [L3.out]; rfl)] at bz5))
    refine bodyPost_ret (v := .agg (coC vt3 vc3 (hallC e (hashL n))).toArray) (results_blk Try.results11 rfl bz5 Try.underlying30 rfl I3.out) rfl ?_
    exact ⟨_, rfl, fun S hS => CoX.less (S := w.heap.size :: S) (CoX.but (HS4.out (w.heap.size :: S) (fun b hb => (List.mem_cons.1 hb).elim (fun h => by omega) (fun h => by have := hS b h; omega))) bu5 (by simp)) (fun b hb => List.mem_cons_of_mem _ hb), f4.trans (below_but bu5 (Nat.le_refl _) f4.size)⟩
end Go.Proofs.Ytgljcfemindgoaa
/- What CourtSues does to its court, party by party: plain. -/
set_option linter.unusedSimpArgs false
set_option linter.unusedVariables false
namespace Go.Proofs.Ytgljcfemindgoaa
open Go.RowKit
set_option maxRecDepth 100000
/-- a court of one claim, read: the claim's block -/
theorem CoX.one_ {w : World} {vt vc : Value} {c : CO} {x : CL} (h : CoX [] w (.agg (coC vt vc c).toArray) c) (hp : c.pre.length = 32) (hb : c.bank.length = 8) (hcl : c.claims = [x]) :
    ∃ bc oc cc vs, vc = .slice (some ⟨bc, oc, none⟩) 1 cc ∧ Sl w 37 (some ⟨bc, oc, none⟩) 1 (clF (vs, x)) ∧ SuX [] w vs x.suits := by
  obtain ⟨vt', vc', he, _, hc⟩ := h
  have hvc : vc = vc' := by
    have e1 := congrArg (fun v : Value => v.cells.toList[42]?) he
    have e2 : (coC vt vc c)[42]? = (coC vt' vc' c)[42]? := e1
    rw [co_claims hp hb, co_claims hp hb] at e2
    injection e2
  subst hvc
  obtain ⟨A, n, cc, l, rfl, sl, hml, hln, _, _, hsu⟩ := hc
  rw [hcl] at hml
  obtain ⟨vs, rfl⟩ : ∃ vs, l = [(vs, x)] := by
    match l, hml with
    | [p], h =>
      simp at h
      exact ⟨p.1, by rw [← h]⟩
  obtain rfl : n = 1 := by simpa using hln.symm
  obtain ⟨b, o, rfl, _⟩ := sl.some_ (by omega)
  rw [rows_one] at sl
  exact ⟨b, o, cc, vs, rfl, sl, hsu (vs, x) (by simp)⟩
theorem findS_none : ∀ (ss : List SU) (i k : Int), (∀ s ∈ ss, s.by_ ≠ i) → findS i ss k = -1
  | [], i, k, _ => rfl
  | s :: l, i, k, h => by
    rw [findS, if_neg (h s (by simp))]
    exact findS_none l i (k + 1) (fun y hy => h y (by simp [hy]))
theorem findS_last : ∀ (ss : List SU) (i k : Int) (s : SU), (∀ y ∈ ss, y.by_ ≠ i) → s.by_ = i → findS i (ss ++ [s]) k = k + ss.length
  | [], i, k, s, _, h => by simp [findS, h]
  | y :: l, i, k, s, h, hs => by
    rw [List.cons_append, findS, if_neg (h y (by simp)), findS_last l i (k + 1) s (fun z hz => h z (by simp [hz])) hs]
    simp only [List.length_cons]
    omega
/-- the court behind so many parties -/
structure SI (wt : Int) (j : Nat) (c : CO) (x : CL) : Prop where
  cl : c.claims = [x]
  ok : c.ok
  now : c.now = wt
  txs : c.txs.length = 5
  n : x.n = 4
  at_ : x.at_ = 0
  bk : ∀ b, b < 8 → 0 ≤ c.bank.getD b 0 ∧ c.bank.getD b 0 ≤ 1000000
  late : 3 < wt → x.st = 2 ∧ x.suits = []
  st : wt ≤ 3 → x.st = 1
  len : wt ≤ 3 → x.suits.length = j - 1
  by_ : wt ≤ 3 → ∀ s ∈ x.suits, 1 ≤ s.by_ ∧ s.by_ < (j : Int)
  b0 : wt ≤ 3 → c.bank.getD 0 0 = 50
  bj : wt ≤ 3 → ∀ b, 1 ≤ b → j ≤ b → b < 8 → c.bank.getD b 0 = 150
  sl : x.suits.length ≤ j
theorem SI.late_ {wt : Int} {j : Nat} {c : CO} {x : CL} (h : SI wt j c x) (hw : 3 < wt) (i : Nat) (hi : i < 8) : sueR c x i 0 = (c, 18) := by
  unfold sueR
  rw [if_neg (by omega), if_neg (by simp), if_pos (.inl (by rw [(h.late hw).1]; decide))]
theorem SI.skip {wt : Int} {j : Nat} {c : CO} {x : CL} (h : SI wt j c x) (hw : 3 < wt ∨ j = 0) : SI wt (j + 1) c x := by
  refine ⟨h.cl, h.ok, h.now, h.txs, h.n, h.at_, h.bk, h.late, h.st, fun h3 => ?_, fun h3 s hs => ?_, h.b0, fun h3 b h1 h2 => h.bj h3 b h1 (by omega), Nat.le_trans h.sl (by omega)⟩
  · have := h.len h3
    omega
  · have := h.by_ h3 s hs
    omega
theorem SI.low {wt : Int} {c : CO} {x : CL} (h : SI wt 0 c x) (h0 : 0 ≤ wt) (hw : wt ≤ 3) : sueR c x (0 : Int) 0 = (c, 13) := by
  have hs : x.suits = [] := List.length_eq_zero_iff.1 (h.len hw)
  unfold sueR
  rw [if_neg (by omega), if_neg (by simp), if_neg (by rw [h.st hw, h.at_, h.now]; omega), if_neg (by rw [hs]; decide), if_pos (by show c.bank.getD 0 0 < 100; rw [h.b0 hw]; decide)]
theorem SI.sue {wt : Int} {j : Nat} {c : CO} {x : CL} (h : SI wt j c x) (h0 : 0 ≤ wt) (hw : wt ≤ 3) (h1 : 1 ≤ j) (h8 : j < 8) : sueR c x (j : Int) 0 = (suedC c x j, 0) := by
  unfold sueR
  rw [if_neg (by omega), if_neg (by simp), if_neg (by rw [h.st hw, h.at_, h.now]; omega), if_neg (by rw [findS_none _ _ _ (fun s hs => by have := h.by_ hw s hs; omega)]; decide), if_neg (by rw [Int.toNat_natCast, h.bj hw j h1 (Nat.le_refl _) h8]; decide), Int.toNat_natCast]
theorem SI.next {wt : Int} {j : Nat} {c : CO} {x : CL} (h : SI wt j c x) (h0 : 0 ≤ wt) (hw : wt ≤ 3) (h1 : 1 ≤ j) (h8 : j < 8) : SI wt (j + 1) (suedC c x j) (suedX c x j) ∧ (suedC c x j).bank.getD j 0 = 50 ∧ sueR (suedC c x j) (suedX c x j) (j : Int) 0 = (suedC c x j, 7) := by
  have hb : ∀ b, b < 8 → (suedC c x j).bank.getD b 0 = if b = j then 50 else c.bank.getD b 0 := fun b hb => by
    show (c.bank.set j (c.bank.getD j 0 - 100)).getD b 0 = _
    rw [h.bj hw j h1 (Nat.le_refl _) h8, List.getD_eq_getElem?_getD, List.getElem?_set]
    by_cases e : b = j
    · subst e
      rw [if_pos rfl, if_pos (by rw [h.ok.bank]; exact hb), if_pos rfl]
      rfl
    · rw [if_neg (fun h => e h.symm), if_neg e, List.getD_eq_getElem?_getD]
  have hxo : x.ok := h.ok.claims x (by rw [h.cl]; simp)
  have hlen := h.len hw
  have hy : (suedX c x j).ok := ⟨hxo.root, fun s hs => by
    rcases List.mem_append.1 hs with h2 | h2
    · exact hxo.suits s h2
    · rw [List.mem_singleton.1 h2]
      exact ⟨⟨h.ok.pre, hxo.root, rfl⟩, fun y hy => h.ok.txs y (List.mem_of_mem_take hy), by show (c.txs.take _).length ≤ _; rw [List.length_take, h.txs]; omega⟩, by show (x.suits ++ [_]).length ≤ _; rw [List.length_append]; simp; omega⟩
  refine ⟨⟨rfl, ⟨h.ok.pre, h.ok.txs, h.ok.n, by show (c.bank.set _ _).length = 8; rw [List.length_set]; exact h.ok.bank, fun y hy' => by rw [List.mem_singleton.1 hy']; exact hy, by show [_].length ≤ 4096; simp⟩, h.now, h.txs, h.n, h.at_, fun b hb8 => ?_, fun h3 => by omega, fun _ => h.st hw, fun _ => ?_, fun _ s hs => ?_, fun _ => ?_, fun _ b hb1 hb2 hb8 => ?_, ?_⟩, ?_, ?_⟩
  · rw [hb b hb8]
    have := h.bk b hb8
    split <;> omega
  · show (x.suits ++ [_]).length = _
    rw [List.length_append]
    simp
    omega
  · rcases List.mem_append.1 hs with h2 | h2
    · have := h.by_ hw s h2
      omega
    · rw [List.mem_singleton.1 h2]
      show 1 ≤ (j : Int) ∧ (j : Int) < ((j + 1 : Nat) : Int)
      omega
  · rw [hb 0 (by decide), if_neg (by omega)]
    exact h.b0 hw
  · rw [hb b hb8, if_neg (by omega)]
    exact h.bj hw b hb1 (by omega) hb8
  · show (x.suits ++ [_]).length ≤ _
    rw [List.length_append]
    simp
    omega
  · rw [hb j h8, if_pos rfl]
  · unfold sueR
    rw [if_neg (by omega), if_neg (by simp), if_neg (by show ¬ (x.st ≠ 1 ∨ x.at_ + 3 < c.now); rw [h.st hw, h.at_, h.now]; omega), if_pos (by
      show 0 ≤ findS (j : Int) (x.suits ++ [_]) 0
      rw [findS_last x.suits (j : Int) 0 ⟨(j : Int), turnD (startD x.n c.pre x.root c.now), c.txs.take x.n.toNat⟩ (fun s hs => by have := h.by_ hw s hs; omega) rfl]
      omega)]
def suesX : CL := ⟨0, 4, 0, 1, one_ 9, []⟩
def suesS : CO := saidC (hallC 150 (hashL 5)) 0 4 (one_ 9)
theorem suesS_ok : suesS.ok := by
  have h := hallC_ok 150 (hashL 5) (hashL_all 5) (by rw [hashL_len]; decide)
  exact ⟨h.pre, h.txs, h.n, rfl, fun x hx => by
    rcases List.mem_append.1 hx with h' | h'
    · cases h'
    · rw [List.mem_singleton.1 h']
      exact ⟨rfl, (by intro s hs; cases hs), Nat.zero_le _⟩, by decide⟩
theorem sues_start (wt : Int) (h0 : 0 ≤ wt) : ∃ x, SI wt 0 (next0 suesS suesX 0 wt) x := by
  have hk := suesS_ok
  by_cases h : 3 < wt
  · refine ⟨{ suesX with st := 2 }, ?_⟩
    have e : next0 suesS suesX 0 wt = { suesS with now := suesS.now + wt, bank := suesS.bank.set 0 (suesS.bank.getD 0 0 + 100), claims := [{ suesX with st := 2 }] } := by
      unfold next0
      rw [if_pos ⟨rfl, by show 3 < 0 + wt - 0; omega⟩]
    rw [e]
    refine ⟨rfl, ⟨hk.pre, hk.txs, hk.n, rfl, fun y hy => by rw [List.mem_singleton.1 hy]; exact ⟨rfl, (by intro s hs; cases hs), Nat.zero_le _⟩, by show [_].length ≤ 4096; simp⟩, by show 0 + wt = wt; omega, hashL_len 5, rfl, rfl, ?_, fun _ => ⟨rfl, rfl⟩, fun h3 => by omega, fun h3 => by omega, fun h3 => by omega, fun h3 => by omega, fun h3 => by omega, Nat.zero_le _⟩
    show ∀ b, b < 8 → 0 ≤ (List.getD [150, 150, 150, 150, 150, 150, 150, 150] b 0 : Int) ∧ (List.getD [150, 150, 150, 150, 150, 150, 150, 150] b 0 : Int) ≤ 1000000
    decide
  · refine ⟨suesX, ?_⟩
    have e : next0 suesS suesX 0 wt = { suesS with now := suesS.now + wt, claims := [suesX] } := by
      unfold next0
      rw [if_neg (by show ¬ (_ ∧ 3 < 0 + wt - 0); omega)]
    rw [e]
    refine ⟨rfl, ⟨hk.pre, hk.txs, hk.n, rfl, fun y hy => by rw [List.mem_singleton.1 hy]; exact ⟨rfl, (by intro s hs; cases hs), Nat.zero_le _⟩, by show [_].length ≤ 4096; simp⟩, by show 0 + wt = wt; omega, hashL_len 5, rfl, rfl, ?_, fun h3 => absurd h3 h, fun _ => rfl, fun _ => rfl, fun _ s hs => (by cases hs), fun _ => rfl, ?_, Nat.zero_le _⟩
    · show ∀ b, b < 8 → 0 ≤ (List.getD [50, 150, 150, 150, 150, 150, 150, 150] b 0 : Int) ∧ (List.getD [50, 150, 150, 150, 150, 150, 150, 150] b 0 : Int) ≤ 1000000
      decide
    · show wt ≤ 3 → ∀ b, 1 ≤ b → 0 ≤ b → b < 8 → (List.getD [50, 150, 150, 150, 150, 150, 150, 150] b 0 : Int) = 150
      intro _ b h1 _ h2
      have : b = 1 ∨ b = 2 ∨ b = 3 ∨ b = 4 ∨ b = 5 ∨ b = 6 ∨ b = 7 := by omega
      rcases this with rfl | rfl | rfl | rfl | rfl | rfl | rfl <;> rfl
end Go.Proofs.Ytgljcfemindgoaa
/- The walk of capstanlaw17.known. -/
set_option linter.unusedSimpArgs false
set_option linter.unusedVariables false
namespace Go.Proofs.Ytgljcfemindgoaa
open Go.RowKit
set_option maxRecDepth 100000
theorem one_snd {α β : Type} {l : List (α × β)} {x : β} (h : l.map (·.2) = [x]) : ∃ u, l = [(u, x)] := by
  cases l with
  | nil => cases h
  | cons p l =>
    cases l with
    | nil =>
      simp at h
      exact ⟨p.1, by rw [← h]⟩
    | cons q l => simp at h
set_option maxRecDepth 100000 in
set_option maxHeartbeats 4000000 in
theorem courtKnown_any (w : World) : Calls Try.prog 9 #[] w (RB true w) := by
  go_enter Try.func9, Try.ntmps9
  go_wp2_with (first
    | (refine wpl_build (by rfl) _ _ rfl _ (by exact builtC1) ?_))
  refine (newC_any (one_ 1) rfl 100 (by omega) (by omega) w).mono ?_
  rintro en w1 ⟨v1, rfl, hs1, hb1⟩
  obtain ⟨vt1, vc1, rfl, ht1, hc1⟩ := hs1 [] (fun _ h => by cases h)
  have o1t := ht1.one
  have o1c := hc1.one
  have I1 := Lib.hid (info_co (vt := vt1) (vc := vc1) (c := newCO 100) rfl rfl)
  have L1 : Hid ((coC vt1 vc1 (newCO 100)).length = 43) := Lib.hid (coC_len (c := newCO 100) rfl rfl)
  obtain ⟨C, hC⟩ : ∃ C, w1.heap.size = C := ⟨_, rfl⟩
  have hwC : w.heap.size ≤ C := by rw [← hC]; exact hb1.size
  have HC1 := Lib.hid hC
  clear hC
  have hbl : (B8 (one_ 2)).length = 32 := rfl
  clear hs1
  go_wp2_with (first
    | (refine wpl_store_new rfl _ _ _ rfl 30 _ (coC vt1 vc1 (newCO 100)) rfl rfl (by rw [L1.out]; rfl) I1.out (coC_one o1t o1c) ?_
       intro w2 d1 hb2
       simp only [Act.put, List.setIfInBounds_toArray, List.set_cons_zero, List.set_cons_succ]
       rw [HC1.out] at d1 ⊢)
    | (refine wpl_load_fld (by rfl) _ _ rfl C 0 rfl (coC vt1 vc1 (newCO 100)) _ d1.range Try.underlying30 rfl I1.out ?_)
    | (refine wpl_build (by rfl) _ _ rfl _ (by exact builtC2) ?_))
  rw [fold_sum' (one_ 2) rfl]
  have s2 : Sl (w2.alloc (.cells (B8 (one_ 2)).toArray 25)) 32 (some ⟨w2.heap.size, 0, none⟩) 1 (H8 [one_ 2]) := by
    have := Sl.new w2 (B8 (one_ 2)).toArray 25 (0, 0) (size := 32) 1 rfl
    simpa [H8] using this
  have h2a : Below w2.heap.size w2 (w2.alloc (.cells (B8 (one_ 2)).toArray 25)) := (Below.refl _ _).alloc (Nat.le_refl _) _
  have Y1 : CoX [] w1 (.agg (coC vt1 vc1 (newCO 100)).toArray) (newCO 100) := ⟨vt1, vc1, rfl, ht1, hc1⟩
  have g1 := hb1.trans (hb2.mono hb1.size)
  have e2 := d1.to h2a
  have Z1 := (Y1.to hb2).to h2a
  have g2 := g1.trans (h2a.mono g1.size)
  generalize w2.alloc (.cells (B8 (one_ 2)).toArray 25) = w3 at *
  clear hbl d1 hb2 h2a Y1 g1 ht1 hc1 hb1
  refine (addC_any _ (newCO 100) (newCO_ok 100) _ 1 1 [one_ 2] (by intro x hx; rw [List.mem_singleton.1 hx]; rfl) w3 s2 rfl (by decide) Z1).mono ?_
  rintro en w4 ⟨v2, rfl, hs2, hb2⟩
  change ∀ S : List Nat, _ → CoX S w4 v2 (hallC 100 [one_ 2]) at hs2
  have hC2 := e2.lt
  obtain ⟨vt2, vc2, rfl, ht2, hc2⟩ := hs2 [C] (fun b hb => by rw [List.mem_singleton.1 hb]; exact hC2)
  have b2 := e2.to hb2
  have f2 := g2.trans (hb2.mono g2.size)
  have o2t := ht2.one
  have o2c := hc2.one
  have I2 := Lib.hid (info_co (vt := vt2) (vc := vc2) (c := (hallC 100 [one_ 2])) rfl rfl)
  have L2 : Hid ((coC vt2 vc2 (hallC 100 [one_ 2])).length = 43) := Lib.hid (coC_len (c := (hallC 100 [one_ 2])) rfl rfl)
  have X2 : CoX [C] w4 (.agg (coC vt2 vc2 (hallC 100 [one_ 2])).toArray) (hallC 100 [one_ 2]) := ⟨vt2, vc2, rfl, ht2, hc2⟩
  clear hs2 ht2 hc2 hb2
  clear e2 g2 Z1 s2
  obtain ⟨c3, hc3e⟩ : ∃ c, saidC (hallC 100 [one_ 2]) 3 1 (one_ 4) = c := ⟨_, rfl⟩
  have HC3 := Lib.hid hc3e
  have HP3 : Hid (c3.pre.length = 32 ∧ c3.bank.length = 8) := (show _ ∧ _ by rw [← hc3e]; exact ⟨rfl, rfl⟩)
  have HO3 : Hid c3.ok := (show c3.ok from by
    rw [← hc3e]
    exact ⟨rfl, (by intro x hx; rw [List.mem_singleton.1 hx]; rfl), (by decide), rfl, (by intro x hx; rw [List.mem_singleton.1 hx]; exact ⟨rfl, (by intro s hs; cases hs), Nat.zero_le _⟩), (by decide)⟩)
  clear hc3e
  go_wp2_with (first
    | (refine wpl_store_fld (by rfl) _ _ _ rfl C 0 _ _ (coC vt2 vc2 (hallC 100 [one_ 2])) rfl _ rfl rfl b2 (by rw [L1.out, L2.out]; exact Nat.le_refl _) I2.out (coC_one o2t o2c) ?_
       intro w5 d2 u2
       rw [put_all _ _ (by rw [L1.out, L2.out])] at d2)
    | (refine wpl_load_fld (by rfl) _ _ rfl C 0 rfl (coC vt2 vc2 (hallC 100 [one_ 2])) _ d2.range Try.underlying30 rfl I2.out ?_)
    | (refine wpl_build (by rfl) _ _ rfl _ (by exact builtC4) ?_))
  have Y2 := cell_next X2 u2
  have g2 := f2.trans (below_but u2 hwC f2.size)
  clear X2 f2 b2 u2
  refine (sayC_any _ (hallC 100 [one_ 2]) (hallC_ok 100 [one_ 2] (by intro x hx; rw [List.mem_singleton.1 hx]; rfl) (by decide)) 3 1 (one_ 4) rfl w5 (by decide) Y2 (c3, 0) (.inr (.inr ⟨⟨by decide, by decide⟩, by decide, by decide, by decide, by decide, by rw [← HC3.out]; rfl⟩))).mono ?_
  rintro en w6 ⟨v3, rfl, hs3, hb3⟩
  have hC3 := d2.lt
  obtain ⟨vt3, vc3, rfl, ht3, hc3⟩ := hs3 [C] (fun b hb => by rw [List.mem_singleton.1 hb]; exact hC3)
  have b3 := d2.to hb3
  have f3 := g2.trans (hb3.mono g2.size)
  have o3t := ht3.one
  have o3c := hc3.one
  have I3 := Lib.hid (info_co (vt := vt3) (vc := vc3) (c := c3) HP3.out.1 HP3.out.2)
  have L3 : Hid ((coC vt3 vc3 c3).length = 43) := Lib.hid (coC_len (c := c3) HP3.out.1 HP3.out.2)
  have X3 : CoX [C] w6 (.agg (coC vt3 vc3 c3).toArray) c3 := ⟨vt3, vc3, rfl, ht3, hc3⟩
  clear hs3 ht3 hc3 hb3
  clear d2 g2 Y2
  obtain ⟨c4, hc4e⟩ : ∃ c, next0 c3 ⟨3, 1, 0, 1, one_ 4, []⟩ 3 4 = c := ⟨_, rfl⟩
  have HC4 := Lib.hid hc4e
  have HE4 : Hid (c4 = ⟨4, one_ 1, [one_ 2], [100, 100, 100, 100, 100, 100, 100, 100], [⟨3, 1, 0, 2, one_ 4, []⟩]⟩) := (show c4 = _ from by rw [← hc4e, ← HC3.out]; rfl)
  have HP4 : Hid (c4.pre.length = 32 ∧ c4.bank.length = 8) := (show _ ∧ _ by rw [HE4.out]; exact ⟨rfl, rfl⟩)
  clear hc4e
  go_wp2_with (first
    | (refine wpl_store_fld (by rfl) _ _ _ rfl C 0 _ _ (coC vt3 vc3 c3) rfl _ rfl rfl b3 (by rw [L2.out, L3.out]; exact Nat.le_refl _) I3.out (coC_one o3t o3c) ?_
       intro w7 d3 u3
       rw [put_all _ _ (by rw [L2.out, L3.out])] at d3)
    | (refine wpl_load_fld (by rfl) _ _ rfl C 0 rfl (coC vt3 vc3 c3) _ d3.range Try.underlying30 rfl I3.out ?_))
  have Y3 := cell_next X3 u3
  have g3 := f3.trans (below_but u3 hwC f3.size)
  clear X3 f3 b3 u3
  refine (next0_any _ c3 HO3.out ⟨3, 1, 0, 1, one_ 4, []⟩ (by rw [← HC3.out]; rfl) rfl 4 (by decide) (by rw [← HC3.out]; decide) (by decide) 3 (by decide) rfl (by rw [← HC3.out]; decide) w7 Y3).mono ?_
  rintro en w8 ⟨v4, rfl, hs4, hb4⟩
  rw [HC4.out] at hs4
  have hC4 := d3.lt
  obtain ⟨vt4, vc4, rfl, ht4, hc4⟩ := hs4 [C] (fun b hb => by rw [List.mem_singleton.1 hb]; exact hC4)
  have b4 := d3.to hb4
  have f4 := g3.trans (hb4.mono g3.size)
  have o4t := ht4.one
  have o4c := hc4.one
  have I4 := Lib.hid (info_co (vt := vt4) (vc := vc4) (c := c4) HP4.out.1 HP4.out.2)
  have L4 : Hid ((coC vt4 vc4 c4).length = 43) := Lib.hid (coC_len (c := c4) HP4.out.1 HP4.out.2)
  clear hs4 hb4 ht4
  clear d3 g3 Y3
  have hcl4 : c4.claims = [⟨3, 1, 0, 2, one_ 4, []⟩] := by rw [HE4.out]
  obtain ⟨Ac, nc, cc, l, rfl, slc, hml, hln, _, hav, _⟩ := hc4
  rw [hcl4] at hml
  obtain ⟨us, rfl⟩ := one_snd hml
  obtain rfl : nc = 1 := by simpa using hln.symm
  obtain ⟨bc, oc, rfl, hltc⟩ := slc.some_ (by omega)
  have hbC : bc ≠ C := fun e => hav bc rfl (by rw [e]; simp)
  have HB4 : Hid (c4.bank.getD 3 0 = 100) := (show _ = _ by rw [HE4.out]; rfl)
  have HSL := Lib.hid slc
  clear hml hln hav slc hcl4
  go_wp2_with (first
    | (refine wpl_store_fld (by rfl) _ _ _ rfl C 0 _ _ (coC vt4 (.slice (some ⟨bc, oc, none⟩) 1 cc) c4) rfl _ rfl rfl b4 (by rw [L3.out, L4.out]; exact Nat.le_refl _) I4.out (coC_one o4t o4c) ?_
       intro w9 d4 u4
       rw [put_all _ _ (by rw [L3.out, L4.out])] at d4
       have k42 : w9.cell? ⟨C, 42, none⟩ = some (.slice (some ⟨bc, oc, none⟩) 1 cc) := by rw [d4.cell]; exact co_claims HP4.out.1 HP4.out.2
       have k37 : w9.cell? ⟨C, 37, none⟩ = some (.int .i64 100) := by rw [d4.cell, ← HB4.out]; exact co_bank HP4.out.1 HP4.out.2 3 (by decide)
       have k3 : w9.cell? ⟨bc, oc + 3, none⟩ = some (.int .i64 2) := (HSL.out.but u4 (by intro e; injection e with e; exact hbC e)).cell rfl))
  go_ret
  exact ⟨rfl, f4.trans (below_but u4 hwC f4.size)⟩
end Go.Proofs.Ytgljcfemindgoaa
/- Walks: two games held against each other: slices.Equal at sums, game.Same. -/
set_option linter.unusedSimpArgs false
set_option linter.unusedVariables false
namespace Go.Proofs.Ytgljcfemindgoaa
open Go.RowKit
set_option maxRecDepth 100000
theorem H8_at : ∀ (hs : List (List UInt8)) (_ : ∀ h ∈ hs, h.length = 32) (i : Nat) (h : List UInt8) (_ : hs[i]? = some h) (j : Nat) (v : Value) (_ : (B8 h)[j]? = some v), (H8 hs)[i * 32 + j]? = some v
  | [], _, i, h, hi, j, v, hv => by simp at hi
  | a :: hs, hl, 0, h, hi, j, v, hv => by
    simp at hi
    subst hi
    have hj : j < (B8 a).length := (List.getElem?_eq_some_iff.1 hv).1
    rw [H8, List.flatMap_cons, Nat.zero_mul, Nat.zero_add, List.getElem?_append_left hj]
    exact hv
  | a :: hs, hl, i + 1, h, hi, j, v, hv => by
    have ih := H8_at hs (fun h hh => hl h (by simp [hh])) i h (by simpa using hi) j v hv
    have ha : (B8 a).length = 32 := by rw [B8_len]; exact hl a (by simp)
    rw [H8, List.flatMap_cons, List.getElem?_append_right (by omega), ha, show (i + 1) * 32 + j - 32 = i * 32 + j from by omega]
    exact ih
theorem Sl.sum_ {w : World} {b o n : Nat} {hs : List (List UInt8)} (h : Sl w 32 (some ⟨b, o, none⟩) n (H8 hs)) (hl : ∀ h ∈ hs, h.length = 32) (i : Nat) (x : List UInt8) (hi : hs[i]? = some x) : w.rangeAt b (o + i * 32) (B8 x) := fun j v hv => by
  rw [Nat.add_assoc]
  exact h.cell (H8_at hs hl i x hi j v hv)
theorem H8_len_ (hs : List (List UInt8)) (h : ∀ x ∈ hs, x.length = 32) : (H8 hs).length = hs.length * 32 := by
  induction hs with
  | nil => rfl
  | cons a hs ih =>
    have := ih (fun x hx => h x (by simp [hx]))
    have h1 := h a (by simp)
    simp only [H8, List.flatMap_cons, List.length_append, B8_len, List.length_cons] at this ⊢
    omega
set_option maxRecDepth 100000 in
set_option maxHeartbeats 1000000 in
theorem equal_H (A : Option Addr) (n c : Nat) (hs : List (List UInt8)) (A2 : Option Addr) (n2 c2 : Nat) (hs2 : List (List UInt8)) (w : World) (h : Sl w 32 A n (H8 hs)) (hl : ∀ x ∈ hs, x.length = 32) (h2 : Sl w 32 A2 n2 (H8 hs2)) (hl2 : ∀ x ∈ hs2, x.length = 32) (hn : n ≤ 4194304) (hn2 : n2 ≤ 4194304) :
    Calls Try.prog 32 #[.slice A n c, .slice A2 n2 c2] w (RB (decide (hs = hs2)) w) := by
  have ln : hs.length = n := by have := h.len; rw [H8_len_ hs hl] at this; omega
  have ln2 : hs2.length = n2 := by have := h2.len; rw [H8_len_ hs2 hl2] at this; omega
  have LN := Lib.hid ln
  have LN2 := Lib.hid ln2
  have HL := Lib.hid hl
  have HL2 := Lib.hid hl2
  clear ln ln2 hl hl2
  by_cases hnn : n = n2
  · subst hnn
    go_enter Try.func32, Try.ntmps32
    go_wp2_with fail
    go_loopw [13] (fun i wr => ∃ k : Nat, i = .int .i64 k ∧ k ≤ n ∧ (hs.take k = hs2.take k) ∧ Below w.heap.size w wr) (fun i _ => n - (intOf i).toNat)
    case atStart => exact ⟨0, rfl, Nat.zero_le _, rfl, Below.refl _ _⟩
    case round =>
      obtain ⟨k, rfl, hk, hpre, hb⟩ := hrel
      have HP := Lib.hid hpre
      clear hpre
      by_cases hlt : k < n
      · have hsw := h.to hb
        have h2w := h2.to hb
        obtain ⟨b1, o1, rfl, hb1⟩ := hsw.some_ (by omega)
        obtain ⟨b2, o2, rfl, hb2⟩ := h2w.some_ (by omega)
        obtain ⟨x, hx⟩ : ∃ x, hs[k]? = some x := ⟨_, List.getElem?_eq_getElem (by rw [LN.out]; exact hlt)⟩
        obtain ⟨y, hy⟩ : ∃ y, hs2[k]? = some y := ⟨_, List.getElem?_eq_getElem (by rw [LN2.out]; exact hlt)⟩
        have xl := HL.out x (List.mem_of_getElem? hx)
        have yl := HL2.out y (List.mem_of_getElem? hy)
        have rx : ∀ w', RBel wr.drew w' → w'.rangeAt b1 (o1 + k * 32) (B8 x) := fun w' hw' => (hsw.drew.to hw').sum_ HL.out k x hx
        have ry : ∀ w', RBel wr.drew w' → w'.rangeAt b2 (o2 + k * 32) (B8 y) := fun w' hw' => (h2w.drew.to hw').sum_ HL2.out k y hy
        have eh := eq_hash x y xl yl
        have IX := info_hash xl
        have IY := info_hash yl
        have HX := Lib.hid hx
        have HY := Lib.hid hy
        have fin := hb.drew
        have t1 : (k : Int) < (n : Int) := by omega
        clear hx hy hsw h2w
        by_cases hxy : x = y
        · rw [show decide (x = y) = true from by simp [hxy]] at eh
          have HXY := Lib.hid hxy
          clear xl yl hxy
          go_wp2_with fail
          refine wp_region_C [(0, true), (1, true), (2, true), (3, true), (4, true), (5, false), (6, false), (7, false), (8, false)] RBel (by kernel_rfl) (by kernel_rfl) (by kernel_rfl) (by decide) RBel.refl_ RBel.trans_ (by intro d v c a w h; cases d <;> exact h) ?_
          generalize wr.drew = wd at *
          repeat (first | (refine wpC_quiet (v := ?_) rfl (by rfl) ?_ ?_; rotate_left; (· (intro w' hw'; go_simp; try with_reducible rfl)); simp only [Act.put, List.setIfInBounds_toArray, List.set_cons_zero, List.set_cons_succ]) | (refine wpC_val (v := ?_) (RBel.refl_) rfl (by rfl) ?_ ?_; rotate_left; (· (go_simp; try with_reducible rfl)); simp only [Act.put, List.setIfInBounds_toArray, List.set_cons_zero, List.set_cons_succ]) | (refine wpC_skip rfl (by rfl) ?_; simp only [Act.put, List.setIfInBounds_toArray, List.set_cons_zero, List.set_cons_succ]) | (refine wpC_skip' (RBel.refl_) rfl (by rfl) ?_; simp only [Act.put, List.setIfInBounds_toArray, List.set_cons_zero, List.set_cons_succ]))
          refine wpC_load rfl (by rfl) _ _ rfl b1 (o1 + k * 32) rfl (B8 x) _ rx Try.underlying25 rfl IX ?_
          simp only [Act.put, List.setIfInBounds_toArray, List.set_cons_zero, List.set_cons_succ]
          repeat (first | (refine wpC_quiet (v := ?_) rfl (by rfl) ?_ ?_; rotate_left; (· (intro w' hw'; go_simp; try with_reducible rfl)); simp only [Act.put, List.setIfInBounds_toArray, List.set_cons_zero, List.set_cons_succ]) | (refine wpC_val (v := ?_) (RBel.refl_) rfl (by rfl) ?_ ?_; rotate_left; (· (go_simp; try with_reducible rfl)); simp only [Act.put, List.setIfInBounds_toArray, List.set_cons_zero, List.set_cons_succ]) | (refine wpC_skip rfl (by rfl) ?_; simp only [Act.put, List.setIfInBounds_toArray, List.set_cons_zero, List.set_cons_succ]) | (refine wpC_skip' (RBel.refl_) rfl (by rfl) ?_; simp only [Act.put, List.setIfInBounds_toArray, List.set_cons_zero, List.set_cons_succ]))
          refine wpC_load_f RBel.refl_ rfl (by rfl) _ _ rfl b2 (o2 + k * 32) rfl (B8 y) _ (ry wd (RBel.refl_ wd)) Try.underlying25 rfl IY ?_
          simp only [Act.put, List.setIfInBounds_toArray, List.set_cons_zero, List.set_cons_succ]
          clear rx ry
          repeat (first | (refine wpC_quiet (v := ?_) rfl (by rfl) ?_ ?_; rotate_left; (· (intro w' hw'; go_simp; try with_reducible rfl)); simp only [Act.put, List.setIfInBounds_toArray, List.set_cons_zero, List.set_cons_succ]) | (refine wpC_val (v := ?_) (RBel.refl_) rfl (by rfl) ?_ ?_; rotate_left; (· (go_simp; try with_reducible rfl)); simp only [Act.put, List.setIfInBounds_toArray, List.set_cons_zero, List.set_cons_succ]) | (refine wpC_skip rfl (by rfl) ?_; simp only [Act.put, List.setIfInBounds_toArray, List.set_cons_zero, List.set_cons_succ]) | (refine wpC_skip' (RBel.refl_) rfl (by rfl) ?_; simp only [Act.put, List.setIfInBounds_toArray, List.set_cons_zero, List.set_cons_succ]))
          refine wpC_nil ?_
          clear eh
          have hnext : hs.take (k + 1) = hs2.take (k + 1) := by rw [List.take_add_one, List.take_add_one, HX.out, HY.out, HXY.out, HP.out]
          have HNX := Lib.hid hnext
          clear hnext
          go_wp2_with fail
          go_roundw
          case rel => exact ⟨k + 1, by go_num, by omega, HNX.out, fin⟩
          case measure => simp [intOf]; omega
        · rw [show decide (x = y) = false from by simp [hxy]] at eh
          have hne : hs ≠ hs2 := fun he => hxy (by have := HX.out; rw [he, HY.out] at this; injection this with this; exact this.symm)
          have HNE := Lib.hid hne
          clear hne xl yl
          go_wp2_with fail
          refine wp_region_C [(0, true), (1, true), (2, true), (3, true), (4, true), (5, false), (6, false), (7, false), (8, false)] RBel (by kernel_rfl) (by kernel_rfl) (by kernel_rfl) (by decide) RBel.refl_ RBel.trans_ (by intro d v c a w h; cases d <;> exact h) ?_
          generalize wr.drew = wd at *
          repeat (first | (refine wpC_quiet (v := ?_) rfl (by rfl) ?_ ?_; rotate_left; (· (intro w' hw'; go_simp; try with_reducible rfl)); simp only [Act.put, List.setIfInBounds_toArray, List.set_cons_zero, List.set_cons_succ]) | (refine wpC_val (v := ?_) (RBel.refl_) rfl (by rfl) ?_ ?_; rotate_left; (· (go_simp; try with_reducible rfl)); simp only [Act.put, List.setIfInBounds_toArray, List.set_cons_zero, List.set_cons_succ]) | (refine wpC_skip rfl (by rfl) ?_; simp only [Act.put, List.setIfInBounds_toArray, List.set_cons_zero, List.set_cons_succ]) | (refine wpC_skip' (RBel.refl_) rfl (by rfl) ?_; simp only [Act.put, List.setIfInBounds_toArray, List.set_cons_zero, List.set_cons_succ]))
          refine wpC_load rfl (by rfl) _ _ rfl b1 (o1 + k * 32) rfl (B8 x) _ rx Try.underlying25 rfl IX ?_
          simp only [Act.put, List.setIfInBounds_toArray, List.set_cons_zero, List.set_cons_succ]
          repeat (first | (refine wpC_quiet (v := ?_) rfl (by rfl) ?_ ?_; rotate_left; (· (intro w' hw'; go_simp; try with_reducible rfl)); simp only [Act.put, List.setIfInBounds_toArray, List.set_cons_zero, List.set_cons_succ]) | (refine wpC_val (v := ?_) (RBel.refl_) rfl (by rfl) ?_ ?_; rotate_left; (· (go_simp; try with_reducible rfl)); simp only [Act.put, List.setIfInBounds_toArray, List.set_cons_zero, List.set_cons_succ]) | (refine wpC_skip rfl (by rfl) ?_; simp only [Act.put, List.setIfInBounds_toArray, List.set_cons_zero, List.set_cons_succ]) | (refine wpC_skip' (RBel.refl_) rfl (by rfl) ?_; simp only [Act.put, List.setIfInBounds_toArray, List.set_cons_zero, List.set_cons_succ]))
          refine wpC_load_f RBel.refl_ rfl (by rfl) _ _ rfl b2 (o2 + k * 32) rfl (B8 y) _ (ry wd (RBel.refl_ wd)) Try.underlying25 rfl IY ?_
          simp only [Act.put, List.setIfInBounds_toArray, List.set_cons_zero, List.set_cons_succ]
          clear rx ry
          repeat (first | (refine wpC_quiet (v := ?_) rfl (by rfl) ?_ ?_; rotate_left; (· (intro w' hw'; go_simp; try with_reducible rfl)); simp only [Act.put, List.setIfInBounds_toArray, List.set_cons_zero, List.set_cons_succ]) | (refine wpC_val (v := ?_) (RBel.refl_) rfl (by rfl) ?_ ?_; rotate_left; (· (go_simp; try with_reducible rfl)); simp only [Act.put, List.setIfInBounds_toArray, List.set_cons_zero, List.set_cons_succ]) | (refine wpC_skip rfl (by rfl) ?_; simp only [Act.put, List.setIfInBounds_toArray, List.set_cons_zero, List.set_cons_succ]) | (refine wpC_skip' (RBel.refl_) rfl (by rfl) ?_; simp only [Act.put, List.setIfInBounds_toArray, List.set_cons_zero, List.set_cons_succ]))
          refine wpC_nil ?_
          clear eh
          go_wp2_with fail
          go_ret
          exact ⟨(show Ending.returned (.bool false) = _ from by rw [decide_eq_false HNE.out]), fin⟩
      · obtain rfl : n = k := by omega
        have e1 : hs.take n = hs := List.take_of_length_le (by rw [LN.out]; exact Nat.le_refl _)
        have e2 : hs2.take n = hs2 := List.take_of_length_le (by rw [LN2.out]; exact Nat.le_refl _)
        have he : hs = hs2 := by rw [← e1, ← e2]; exact HP.out
        have HE := Lib.hid he
        clear e1 e2 he
        go_wp2_with fail
        go_ret
        exact ⟨(show Ending.returned (.bool true) = _ from by rw [decide_eq_true HE.out]), hb⟩
  · have hne : hs ≠ hs2 := fun he => hnn (by rw [← LN.out, ← LN2.out, he])
    rw [show decide (hs = hs2) = false from by simp [hne]]
    have t1 : ((n : Int) != (n2 : Int)) = true := by simp; omega
    clear hne
    go_enter Try.func32, Try.ntmps32
    go_wp2_with fail
    go_ret
    exact ⟨rfl, Below.refl _ _⟩
def numC (d : GD) : List Value := [.int .i64 d.lo, .int .i64 d.hi, .int .i64 d.turn, .int .i64 d.moves, .int .i64 d.limit, .int .i64 d.cl, .int .i64 d.ref, .bool d.won]
def rootC (d : GD) : List Value := B8 d.rlo ++ B8 d.rhi ++ B8 d.mid
def numEq (a b : GD) : Prop := a.lo = b.lo ∧ a.hi = b.hi ∧ a.turn = b.turn ∧ a.moves = b.moves ∧ a.limit = b.limit ∧ a.cl = b.cl ∧ a.ref = b.ref ∧ a.won = b.won
def rootEq (a b : GD) : Prop := a.rlo = b.rlo ∧ a.rhi = b.rhi ∧ a.mid = b.mid
instance (a b : GD) : Decidable (numEq a b) := by unfold numEq; infer_instance
instance (a b : GD) : Decidable (rootEq a b) := by unfold rootEq; infer_instance
theorem gd_eq (a b : GD) : a = b ↔ numEq a b ∧ rootEq a b := by
  obtain ⟨a1, a2, a3, a4, a5, a6, a7, a8, a9, a10, a11⟩ := a
  obtain ⟨b1, b2, b3, b4, b5, b6, b7, b8, b9, b10, b11⟩ := b
  simp only [GD.mk.injEq, numEq, rootEq]
  constructor
  · rintro ⟨rfl, rfl, rfl, rfl, rfl, rfl, rfl, rfl, rfl, rfl, rfl⟩
    simp
  · rintro ⟨⟨rfl, rfl, rfl, rfl, rfl, rfl, rfl, rfl⟩, rfl, rfl, rfl⟩
    simp
theorem plain3 : Try.prog.plainKey 3 = true := by kernel_rfl
theorem plain4 : Try.prog.plainKey 4 = true := by kernel_rfl
set_option maxHeartbeats 4000000 in
theorem eq_numbers (a b : GD) (w : World) : (Op.equalIn 10000 118 (.agg (numC a).toArray) (.agg (numC b).toArray)).run Try.prog w = .ok (decide (numEq a b)) w := by
  rw [run_equalIn_struct w 9999 _ _ _ (by kernel_rfl) Try.stoodInHeld118]
  simp only [Program.fieldsOf, Try.underlying118]
  have I : ∀ x y : Int, (Op.equalIn 9999 3 (.int .i64 x) (.int .i64 y)).run Try.prog w = .ok (x == y) w := fun x y => run_equalIn_int w 9998 _ .i64 .i64 x y Try.underlying3
  have Bo : ∀ x y : Bool, (Op.equalIn 9999 4 (.bool x) (.bool y)).run Try.prog w = .ok (x == y) w := fun x y => run_equalIn_bool' w 9998 _ x y Try.underlying4
  unfold numEq
  rw [eqFields_step (by decide) (run_part_plain w plain3 rfl) (run_part_plain w plain3 rfl) (I a.lo b.lo)]
  rw [eqFields_step (by decide) (run_part_plain w plain3 rfl) (run_part_plain w plain3 rfl) (I a.hi b.hi)]
  rw [eqFields_step (by decide) (run_part_plain w plain3 rfl) (run_part_plain w plain3 rfl) (I a.turn b.turn)]
  rw [eqFields_step (by decide) (run_part_plain w plain3 rfl) (run_part_plain w plain3 rfl) (I a.moves b.moves)]
  rw [eqFields_step (by decide) (run_part_plain w plain3 rfl) (run_part_plain w plain3 rfl) (I a.limit b.limit)]
  rw [eqFields_step (by decide) (run_part_plain w plain3 rfl) (run_part_plain w plain3 rfl) (I a.cl b.cl)]
  rw [eqFields_step (by decide) (run_part_plain w plain3 rfl) (run_part_plain w plain3 rfl) (I a.ref b.ref)]
  rw [eqFields_step (by decide) (run_part_plain w plain4 rfl) (run_part_plain w plain4 rfl) (Bo a.won b.won)]
  rw [eqFields_nil]
  by_cases h1 : a.lo = b.lo
  · by_cases h2 : a.hi = b.hi
    · by_cases h3 : a.turn = b.turn
      · by_cases h4 : a.moves = b.moves
        · by_cases h5 : a.limit = b.limit
          · by_cases h6 : a.cl = b.cl
            · by_cases h7 : a.ref = b.ref
              · by_cases h8 : a.won = b.won
                · simp [h1, h2, h3, h4, h5, h6, h7, h8]
                · simp [h1, h2, h3, h4, h5, h6, h7, h8]
              · simp [h1, h2, h3, h4, h5, h6, h7]
            · simp [h1, h2, h3, h4, h5, h6]
          · simp [h1, h2, h3, h4, h5]
        · simp [h1, h2, h3, h4]
      · simp [h1, h2, h3]
    · simp [h1, h2]
  · simp [h1]
theorem ext_roots (d : GD) (h : GLen d) : (rootC d).toArray.extract 0 (0 + 32) = (B8 d.rlo).toArray ∧ (rootC d).toArray.extract 32 (32 + 32) = (B8 d.rhi).toArray ∧ (rootC d).toArray.extract 64 (64 + 32) = (B8 d.mid).toArray := by
  unfold rootC
  have l1 : (B8 d.rlo).length = 32 := by rw [B8_len, h.rlo]
  have l2 : (B8 d.rhi).length = 32 := by rw [B8_len, h.rhi]
  have l3 : (B8 d.mid).length = 32 := by rw [B8_len, h.mid]
  refine ⟨?_, ?_, ?_⟩
  · simp [l1]
  · have h2 := ext_mid (B8 d.rlo) (B8 d.rhi) (B8 d.mid)
    rw [l1, l2] at h2
    exact h2
  · have h3 := ext_mid (B8 d.rlo ++ B8 d.rhi) (B8 d.mid) []
    rw [List.length_append, l1, l2, l3, List.append_nil] at h3
    exact h3
theorem eq_hash9 (a b : List UInt8) (ha : a.length = 32) (hb : b.length = 32) (w : World) : (Op.equalIn 9999 25 (.agg (B8 a).toArray) (.agg (B8 b).toArray)).run Try.prog w = .ok (decide (a = b)) w := by
  obtain ⟨i, hi⟩ := info_u8'
  exact eq_bytes Try.underlying25 Try.underlying5 hi (by kernel_rfl) 9997 a b ha hb w
theorem eq_roots (a b : GD) (ha : GLen a) (hb : GLen b) (w : World) : (Op.equalIn 10000 120 (.agg (rootC a).toArray) (.agg (rootC b).toArray)).run Try.prog w = .ok (decide (rootEq a b)) w := by
  rw [run_equalIn_struct w 9999 _ _ _ (by kernel_rfl) Try.stoodInHeld120]
  simp only [Program.fieldsOf, Try.underlying120]
  have pr := fun (cs : Array Value) (off : Nat) => run_part_row (P := Try.prog) (t := 25) (n := 32) Try.underlying25 rfl (by kernel_rfl) cs off w
  obtain ⟨x1, x2, x3⟩ := ext_roots a ha
  obtain ⟨y1, y2, y3⟩ := ext_roots b hb
  unfold rootEq
  rw [eqFields_step (by decide) (by rw [pr, x1]) (by rw [pr, y1]) (eq_hash9 a.rlo b.rlo ha.1 hb.1 w)]
  rw [eqFields_step (by decide) (by rw [pr, x2]) (by rw [pr, y2]) (eq_hash9 a.rhi b.rhi ha.2 hb.2 w)]
  rw [eqFields_step (by decide) (by rw [pr, x3]) (by rw [pr, y3]) (eq_hash9 a.mid b.mid ha.3 hb.3 w)]
  rw [eqFields_nil]
  by_cases h1 : a.rlo = b.rlo
  · by_cases h2 : a.rhi = b.rhi
    · by_cases h3 : a.mid = b.mid
      · simp [h1, h2, h3]
      · simp [h1, h2, h3]
    · simp [h1, h2]
  · simp [h1]
theorem built_roots (d : GD) (h : GLen d) : Try.prog.built 120 [(0, .agg (B8 d.rlo).toArray), (1, .agg (B8 d.rhi).toArray), (2, .agg (B8 d.mid).toArray)] = some (rootC d).toArray := by
  rw [built_struct (z := .agg (B8 zero32 ++ B8 zero32 ++ B8 zero32).toArray) (places := [(0, 32), (32, 32), (64, 32)]) (by kernel_rfl) Try.underlying120 (by kernel_rfl)]
  have l1 : (B8 d.rlo).length = 32 := by rw [B8_len, h.rlo]
  have l2 : (B8 d.rhi).length = 32 := by rw [B8_len, h.rhi]
  have l3 : (B8 d.mid).length = 32 := by rw [B8_len, h.mid]
  have lz : (B8 zero32).length = 32 := rfl
  show Instr.fill _ (B8 zero32 ++ B8 zero32 ++ B8 zero32).toArray _ = _
  rw [fill_cons _ _ (B8 d.rlo) 0 0 _ _ (by rw [l1]; rfl) rfl (by simp [l1, lz])]
  rw [show put_ (B8 zero32 ++ B8 zero32 ++ B8 zero32) 0 (B8 d.rlo) = B8 d.rlo ++ B8 zero32 ++ B8 zero32 from by
    have := put_mid [] (B8 zero32) (B8 zero32 ++ B8 zero32) (B8 d.rlo) (by rw [l1, lz])
    simpa using this]
  rw [fill_cons _ _ (B8 d.rhi) 1 32 _ _ (by rw [l2]; rfl) rfl (by simp [l1, l2, lz])]
  rw [show put_ (B8 d.rlo ++ B8 zero32 ++ B8 zero32) 32 (B8 d.rhi) = B8 d.rlo ++ B8 d.rhi ++ B8 zero32 from by
    have := put_mid (B8 d.rlo) (B8 zero32) (B8 zero32) (B8 d.rhi) (by rw [l2, lz])
    rw [l1] at this
    exact this]
  rw [fill_cons _ _ (B8 d.mid) 2 64 _ _ (by rw [l3]; rfl) rfl (by simp [l1, l2, l3, lz])]
  rw [show put_ (B8 d.rlo ++ B8 d.rhi ++ B8 zero32) 64 (B8 d.mid) = B8 d.rlo ++ B8 d.rhi ++ B8 d.mid from by
    have := put_mid (B8 d.rlo ++ B8 d.rhi) (B8 zero32) [] (B8 d.mid) (by rw [l3, lz])
    rw [List.length_append, l1, l2] at this
    simpa using this]
  rfl
end Go.Proofs.Ytgljcfemindgoaa
/- The walk of game.Same. -/
set_option linter.unusedSimpArgs false
set_option linter.unusedVariables false
namespace Go.Proofs.Ytgljcfemindgoaa
open Go.RowKit
set_option maxRecDepth 100000
theorem built_num (d : GD) : Try.prog.built 118 [(0, .int .i64 d.lo), (1, .int .i64 d.hi), (2, .int .i64 d.turn), (3, .int .i64 d.moves), (4, .int .i64 d.limit), (5, .int .i64 d.cl), (6, .int .i64 d.ref), (7, .bool d.won)] = some (numC d).toArray := by kernel_rfl
theorem numC_one (d : GD) : ∀ u ∈ numC d, u.oneCell' = true := by
  intro u hu
  simp only [numC, List.mem_cons, List.not_mem_nil, or_false] at hu
  rcases hu with rfl | rfl | rfl | rfl | rfl | rfl | rfl | rfl <;> rfl
theorem info_num : (Try.prog.info? 118).map (·.size) = some 8 := by kernel_rfl
set_option maxRecDepth 100000 in
set_option maxHeartbeats 4000000 in
theorem same_e (A : Option Addr) (n c : Nat) (hs : List (List UInt8)) (a : GD) (A2 : Option Addr) (n2 c2 : Nat) (hs2 : List (List UInt8)) (b : GD) (w : World) (h : Sl w 32 A n (H8 hs)) (hl : ∀ x ∈ hs, x.length = 32) (h2 : Sl w 32 A2 n2 (H8 hs2)) (hl2 : ∀ x ∈ hs2, x.length = 32) (hn : n ≤ 4194304) (hn2 : n2 ≤ 4194304)
    (ga : GLen a) (gb : GLen b) (h1 : numEq a b) (h3 : rootEq a b) : Calls Try.prog 58 #[gval (.slice A n c) a, gval (.slice A2 n2 c2) b] w (RB (decide (a = b ∧ hs = hs2)) w) := by
  obtain ⟨W, HW, hbw, xa, xb⟩ : ∃ W, Hid (W = (w.alloc (.cells (gcells (.slice A n c) a).toArray 47)).alloc (.cells (gcells (.slice A2 n2 c2) b).toArray 47)) ∧ Below w.heap.size w W ∧
      GB 47 W w.heap.size (.slice A n c) a ∧ GB 47 W (w.heap.size + 1) (.slice A2 n2 c2) b := by
    refine ⟨_, rfl, ((Below.refl _ _).alloc (Nat.le_refl _) _).alloc (by simp) _, ⟨(Blk.new w (gcells (.slice A n c) a).toArray 47).to ((Below.refl _ _).alloc (Nat.le_refl _) _), ga⟩, ⟨?_, gb⟩⟩
    have := Blk.new (w.alloc (.cells (gcells (.slice A n c) a).toArray 47)) (gcells (.slice A2 n2 c2) b).toArray 47
    simpa using this
  have sa := h.to hbw
  have sb := h2.to hbw
  have hz := xb.lt
  have a1 := xa.c1
  have a2 := xa.c2
  have a3 := xa.c99
  have a4 := xa.c100
  have a5 := xa.c101
  have a6 := xa.c102
  have a7 := xa.c103
  have a8 := xa.c104
  have b1 := xb.c1
  have b2 := xb.c2
  have b3 := xb.c99
  have b4 := xb.c100
  have b5 := xb.c101
  have b6 := xb.c102
  have b7 := xb.c103
  have b8 := xb.c104
  have en := eq_numbers a b
  have er := eq_roots a b ga gb
  have na := numC_one a
  have nb := numC_one b
  have NA := Lib.hid na
  have NB := Lib.hid nb
  have HL := Lib.hid hl
  have HL2 := Lib.hid hl2
  clear na nb hl hl2
  unfold gval
  rw [decide_eq_true h1] at en
  rw [decide_eq_true h3] at er
  have HF : Hid (decide (a = b ∧ hs = hs2) = decide (hs = hs2)) := (by
    show _ = _
    have hab := (gd_eq a b).2 ⟨h1, h3⟩
    simp [hab])
  clear h1 h3
  go_enter Try.func58, Try.ntmps58
  go_upto_region 1 with fail
  refine wp_at HW.out ?_
  clear HW
  go_upto_region 2 with (first
    | (refine wpl_build (by rfl) _ _ rfl (numC a).toArray (by kernel_rfl) ?_)
    | (refine wpl_store_fld (by rfl) _ _ _ rfl W.heap.size 0 _ _ (numC a) rfl _ rfl rfl (Blk.new W _ _) (by simp [numC]) info_num NA.out ?_
       intro w1 bz1 bu1
       rw [put_all _ _ (by rfl)] at bz1
       have f1 := (Below.refl W.heap.size W).alloc (Nat.le_refl _) (.cells #[.int .i64 0, .int .i64 0, .int .i64 0, .int .i64 0, .int .i64 0, .int .i64 0, .int .i64 0, .bool false] 118)
       have f2 := f1.trans (below_but bu1 (Nat.le_refl _) f1.size)
       have xa2 := xa.to f2
       have xb2 := xb.to f2
       clear a1 a2 a3 a4 a5 a6 a7 a8 b1 b2 b3 b4 b5 b6 b7 b8 bu1 f1
       have b1 := xb2.c1
       have b2 := xb2.c2
       have b3 := xb2.c99
       have b4 := xb2.c100
       have b5 := xb2.c101
       have b6 := xb2.c102
       have b7 := xb2.c103
       have b8 := xb2.c104))
  go_upto_region 3 with (first
    | (refine wpl_build (by rfl) _ _ rfl (numC b).toArray (by kernel_rfl) ?_)
    | (refine wpl_store_fld (by rfl) _ _ _ rfl w1.heap.size 0 _ _ (numC b) rfl _ rfl rfl (Blk.new w1 _ _) (by simp [numC]) info_num NB.out ?_
       intro w3 bz3 bu3
       rw [put_all _ _ (by rfl)] at bz3
       have g1 := (Below.refl w1.heap.size w1).alloc (Nat.le_refl _) (.cells #[.int .i64 0, .int .i64 0, .int .i64 0, .int .i64 0, .int .i64 0, .int .i64 0, .int .i64 0, .bool false] 118)
       have g2 := g1.trans (below_but bu3 (Nat.le_refl _) g1.size)
       have f3 := f2.trans (g2.mono f2.size)
       have xa3 := xa2.to g2
       have xb3 := xb2.to g2
       have bz1' := bz1.to g2
       have f4 := hbw.trans (f3.mono hbw.size)
       have a0 := xa3.c0
       have b0 := xb3.c0
       clear b1 b2 b3 b4 b5 b6 b7 b8 bu3 g1 g2 bz1 xa2 xb2 f2))
  have tok11 : True := trivial
  have tok12 : True := trivial
  have tok13 : True := trivial
  have tok14 : True := trivial
  have tok15 : True := trivial
  have tok16 : True := trivial
  have tok17 : True := trivial
  have tok18 : True := trivial
  have tok19 : True := trivial
  have tok20 : True := trivial
  go_wp2_with (first
    | (have _t := tok11; refine wpl_load_fld (by rfl) _ _ rfl W.heap.size 0 rfl (numC a) _ bz1'.range Try.underlying118 rfl info_num ?_; clear tok11)
    | (have _t := tok12; refine wpl_load_fld (by rfl) _ _ rfl w1.heap.size 0 rfl (numC b) _ bz3.range Try.underlying118 rfl info_num ?_; clear tok12)
    | (have _t := tok13; refine wpl_load_fld (by rfl) _ _ rfl w.heap.size 3 rfl (B8 a.rlo) _ xa3.r3 Try.underlying25 rfl (info_hash ga.1) ?_; clear tok13)
    | (have _t := tok14; refine wpl_load_fld (by rfl) _ _ rfl w.heap.size 35 rfl (B8 a.rhi) _ xa3.r35 Try.underlying25 rfl (info_hash ga.2) ?_; clear tok14)
    | (have _t := tok15; refine wpl_load_fld (by rfl) _ _ rfl w.heap.size 67 rfl (B8 a.mid) _ xa3.r67 Try.underlying25 rfl (info_hash ga.3) ?_; clear tok15)
    | (have _t := tok16; refine wpl_load_fld (by rfl) _ _ rfl (w.heap.size + 1) 3 rfl (B8 b.rlo) _ xb3.r3 Try.underlying25 rfl (info_hash gb.1) ?_; clear tok16)
    | (have _t := tok17; refine wpl_load_fld (by rfl) _ _ rfl (w.heap.size + 1) 35 rfl (B8 b.rhi) _ xb3.r35 Try.underlying25 rfl (info_hash gb.2) ?_; clear tok17)
    | (have _t := tok18; refine wpl_load_fld (by rfl) _ _ rfl (w.heap.size + 1) 67 rfl (B8 b.mid) _ xb3.r67 Try.underlying25 rfl (info_hash gb.3) ?_; clear tok18)
    | (have _t := tok19; refine wpl_build (by rfl) _ _ rfl _ (by exact built_roots a ga) ?_; clear tok19)
    | (have _t := tok20; refine wpl_build (by rfl) _ _ rfl _ (by exact built_roots b gb) ?_; clear tok20))
  refine (equal_H A n c hs A2 n2 c2 hs2 _ ((sa.to f3)) HL.out (sb.to f3) HL2.out hn hn2).mono ?_
  rintro e w5 ⟨rfl, hb5⟩
  go_wp2_with fail
  go_ret
  exact ⟨(show Ending.returned (.bool (decide (hs = hs2))) = _ from by rw [HF.out]), f4.trans (hb5.mono f4.size)⟩
set_option maxRecDepth 100000 in
set_option maxHeartbeats 4000000 in
theorem same_r (A : Option Addr) (n c : Nat) (hs : List (List UInt8)) (a : GD) (A2 : Option Addr) (n2 c2 : Nat) (hs2 : List (List UInt8)) (b : GD) (w : World) (h : Sl w 32 A n (H8 hs)) (hl : ∀ x ∈ hs, x.length = 32) (h2 : Sl w 32 A2 n2 (H8 hs2)) (hl2 : ∀ x ∈ hs2, x.length = 32) (hn : n ≤ 4194304) (hn2 : n2 ≤ 4194304)
    (ga : GLen a) (gb : GLen b) (h1 : numEq a b) (h3 : ¬ rootEq a b) : Calls Try.prog 58 #[gval (.slice A n c) a, gval (.slice A2 n2 c2) b] w (RB (decide (a = b ∧ hs = hs2)) w) := by
  obtain ⟨W, HW, hbw, xa, xb⟩ : ∃ W, Hid (W = (w.alloc (.cells (gcells (.slice A n c) a).toArray 47)).alloc (.cells (gcells (.slice A2 n2 c2) b).toArray 47)) ∧ Below w.heap.size w W ∧
      GB 47 W w.heap.size (.slice A n c) a ∧ GB 47 W (w.heap.size + 1) (.slice A2 n2 c2) b := by
    refine ⟨_, rfl, ((Below.refl _ _).alloc (Nat.le_refl _) _).alloc (by simp) _, ⟨(Blk.new w (gcells (.slice A n c) a).toArray 47).to ((Below.refl _ _).alloc (Nat.le_refl _) _), ga⟩, ⟨?_, gb⟩⟩
    have := Blk.new (w.alloc (.cells (gcells (.slice A n c) a).toArray 47)) (gcells (.slice A2 n2 c2) b).toArray 47
    simpa using this
  have sa := h.to hbw
  have sb := h2.to hbw
  have hz := xb.lt
  have a1 := xa.c1
  have a2 := xa.c2
  have a3 := xa.c99
  have a4 := xa.c100
  have a5 := xa.c101
  have a6 := xa.c102
  have a7 := xa.c103
  have a8 := xa.c104
  have b1 := xb.c1
  have b2 := xb.c2
  have b3 := xb.c99
  have b4 := xb.c100
  have b5 := xb.c101
  have b6 := xb.c102
  have b7 := xb.c103
  have b8 := xb.c104
  have en := eq_numbers a b
  have er := eq_roots a b ga gb
  have na := numC_one a
  have nb := numC_one b
  have NA := Lib.hid na
  have NB := Lib.hid nb
  have HL := Lib.hid hl
  have HL2 := Lib.hid hl2
  clear na nb hl hl2
  unfold gval
  rw [decide_eq_true h1] at en
  rw [decide_eq_false h3] at er
  have HF : Hid (decide (a = b ∧ hs = hs2) = false) := decide_eq_false (fun he => h3 ((gd_eq a b).1 he.1).2)
  clear h1 h3
  go_enter Try.func58, Try.ntmps58
  go_upto_region 1 with fail
  refine wp_at HW.out ?_
  clear HW
  go_upto_region 2 with (first
    | (refine wpl_build (by rfl) _ _ rfl (numC a).toArray (by kernel_rfl) ?_)
    | (refine wpl_store_fld (by rfl) _ _ _ rfl W.heap.size 0 _ _ (numC a) rfl _ rfl rfl (Blk.new W _ _) (by simp [numC]) info_num NA.out ?_
       intro w1 bz1 bu1
       rw [put_all _ _ (by rfl)] at bz1
       have f1 := (Below.refl W.heap.size W).alloc (Nat.le_refl _) (.cells #[.int .i64 0, .int .i64 0, .int .i64 0, .int .i64 0, .int .i64 0, .int .i64 0, .int .i64 0, .bool false] 118)
       have f2 := f1.trans (below_but bu1 (Nat.le_refl _) f1.size)
       have xa2 := xa.to f2
       have xb2 := xb.to f2
       clear a1 a2 a3 a4 a5 a6 a7 a8 b1 b2 b3 b4 b5 b6 b7 b8 bu1 f1
       have b1 := xb2.c1
       have b2 := xb2.c2
       have b3 := xb2.c99
       have b4 := xb2.c100
       have b5 := xb2.c101
       have b6 := xb2.c102
       have b7 := xb2.c103
       have b8 := xb2.c104))
  go_upto_region 3 with (first
    | (refine wpl_build (by rfl) _ _ rfl (numC b).toArray (by kernel_rfl) ?_)
    | (refine wpl_store_fld (by rfl) _ _ _ rfl w1.heap.size 0 _ _ (numC b) rfl _ rfl rfl (Blk.new w1 _ _) (by simp [numC]) info_num NB.out ?_
       intro w3 bz3 bu3
       rw [put_all _ _ (by rfl)] at bz3
       have g1 := (Below.refl w1.heap.size w1).alloc (Nat.le_refl _) (.cells #[.int .i64 0, .int .i64 0, .int .i64 0, .int .i64 0, .int .i64 0, .int .i64 0, .int .i64 0, .bool false] 118)
       have g2 := g1.trans (below_but bu3 (Nat.le_refl _) g1.size)
       have f3 := f2.trans (g2.mono f2.size)
       have xa3 := xa2.to g2
       have xb3 := xb2.to g2
       have bz1' := bz1.to g2
       have f4 := hbw.trans (f3.mono hbw.size)
       have a0 := xa3.c0
       have b0 := xb3.c0
       clear b1 b2 b3 b4 b5 b6 b7 b8 bu3 g1 g2 bz1 xa2 xb2 f2))
  have tok11 : True := trivial
  have tok12 : True := trivial
  have tok13 : True := trivial
  have tok14 : True := trivial
  have tok15 : True := trivial
  have tok16 : True := trivial
  have tok17 : True := trivial
  have tok18 : True := trivial
  have tok19 : True := trivial
  have tok20 : True := trivial
  go_wp2_with (first
    | (have _t := tok11; refine wpl_load_fld (by rfl) _ _ rfl W.heap.size 0 rfl (numC a) _ bz1'.range Try.underlying118 rfl info_num ?_; clear tok11)
    | (have _t := tok12; refine wpl_load_fld (by rfl) _ _ rfl w1.heap.size 0 rfl (numC b) _ bz3.range Try.underlying118 rfl info_num ?_; clear tok12)
    | (have _t := tok13; refine wpl_load_fld (by rfl) _ _ rfl w.heap.size 3 rfl (B8 a.rlo) _ xa3.r3 Try.underlying25 rfl (info_hash ga.1) ?_; clear tok13)
    | (have _t := tok14; refine wpl_load_fld (by rfl) _ _ rfl w.heap.size 35 rfl (B8 a.rhi) _ xa3.r35 Try.underlying25 rfl (info_hash ga.2) ?_; clear tok14)
    | (have _t := tok15; refine wpl_load_fld (by rfl) _ _ rfl w.heap.size 67 rfl (B8 a.mid) _ xa3.r67 Try.underlying25 rfl (info_hash ga.3) ?_; clear tok15)
    | (have _t := tok16; refine wpl_load_fld (by rfl) _ _ rfl (w.heap.size + 1) 3 rfl (B8 b.rlo) _ xb3.r3 Try.underlying25 rfl (info_hash gb.1) ?_; clear tok16)
    | (have _t := tok17; refine wpl_load_fld (by rfl) _ _ rfl (w.heap.size + 1) 35 rfl (B8 b.rhi) _ xb3.r35 Try.underlying25 rfl (info_hash gb.2) ?_; clear tok17)
    | (have _t := tok18; refine wpl_load_fld (by rfl) _ _ rfl (w.heap.size + 1) 67 rfl (B8 b.mid) _ xb3.r67 Try.underlying25 rfl (info_hash gb.3) ?_; clear tok18)
    | (have _t := tok19; refine wpl_build (by rfl) _ _ rfl _ (by exact built_roots a ga) ?_; clear tok19)
    | (have _t := tok20; refine wpl_build (by rfl) _ _ rfl _ (by exact built_roots b gb) ?_; clear tok20))
  go_ret
  exact ⟨(show Ending.returned (.bool false) = _ from by rw [HF.out]), f4⟩
set_option maxRecDepth 100000 in
set_option maxHeartbeats 4000000 in
theorem same_n (A : Option Addr) (n c : Nat) (hs : List (List UInt8)) (a : GD) (A2 : Option Addr) (n2 c2 : Nat) (hs2 : List (List UInt8)) (b : GD) (w : World) (h : Sl w 32 A n (H8 hs)) (hl : ∀ x ∈ hs, x.length = 32) (h2 : Sl w 32 A2 n2 (H8 hs2)) (hl2 : ∀ x ∈ hs2, x.length = 32) (hn : n ≤ 4194304) (hn2 : n2 ≤ 4194304)
    (ga : GLen a) (gb : GLen b) (h1 : ¬ numEq a b) : Calls Try.prog 58 #[gval (.slice A n c) a, gval (.slice A2 n2 c2) b] w (RB (decide (a = b ∧ hs = hs2)) w) := by
  obtain ⟨W, HW, hbw, xa, xb⟩ : ∃ W, Hid (W = (w.alloc (.cells (gcells (.slice A n c) a).toArray 47)).alloc (.cells (gcells (.slice A2 n2 c2) b).toArray 47)) ∧ Below w.heap.size w W ∧
      GB 47 W w.heap.size (.slice A n c) a ∧ GB 47 W (w.heap.size + 1) (.slice A2 n2 c2) b := by
    refine ⟨_, rfl, ((Below.refl _ _).alloc (Nat.le_refl _) _).alloc (by simp) _, ⟨(Blk.new w (gcells (.slice A n c) a).toArray 47).to ((Below.refl _ _).alloc (Nat.le_refl _) _), ga⟩, ⟨?_, gb⟩⟩
    have := Blk.new (w.alloc (.cells (gcells (.slice A n c) a).toArray 47)) (gcells (.slice A2 n2 c2) b).toArray 47
    simpa using this
  have sa := h.to hbw
  have sb := h2.to hbw
  have hz := xb.lt
  have a1 := xa.c1
  have a2 := xa.c2
  have a3 := xa.c99
  have a4 := xa.c100
  have a5 := xa.c101
  have a6 := xa.c102
  have a7 := xa.c103
  have a8 := xa.c104
  have b1 := xb.c1
  have b2 := xb.c2
  have b3 := xb.c99
  have b4 := xb.c100
  have b5 := xb.c101
  have b6 := xb.c102
  have b7 := xb.c103
  have b8 := xb.c104
  have en := eq_numbers a b
  have er := eq_roots a b ga gb
  have na := numC_one a
  have nb := numC_one b
  have NA := Lib.hid na
  have NB := Lib.hid nb
  have HL := Lib.hid hl
  have HL2 := Lib.hid hl2
  clear na nb hl hl2
  unfold gval
  rw [decide_eq_false h1] at en
  have HF : Hid (decide (a = b ∧ hs = hs2) = false) := decide_eq_false (fun he => h1 ((gd_eq a b).1 he.1).1)
  clear h1
  go_enter Try.func58, Try.ntmps58
  go_upto_region 1 with fail
  refine wp_at HW.out ?_
  clear HW
  go_upto_region 2 with (first
    | (refine wpl_build (by rfl) _ _ rfl (numC a).toArray (by kernel_rfl) ?_)
    | (refine wpl_store_fld (by rfl) _ _ _ rfl W.heap.size 0 _ _ (numC a) rfl _ rfl rfl (Blk.new W _ _) (by simp [numC]) info_num NA.out ?_
       intro w1 bz1 bu1
       rw [put_all _ _ (by rfl)] at bz1
       have f1 := (Below.refl W.heap.size W).alloc (Nat.le_refl _) (.cells #[.int .i64 0, .int .i64 0, .int .i64 0, .int .i64 0, .int .i64 0, .int .i64 0, .int .i64 0, .bool false] 118)
       have f2 := f1.trans (below_but bu1 (Nat.le_refl _) f1.size)
       have xa2 := xa.to f2
       have xb2 := xb.to f2
       clear a1 a2 a3 a4 a5 a6 a7 a8 b1 b2 b3 b4 b5 b6 b7 b8 bu1 f1
       have b1 := xb2.c1
       have b2 := xb2.c2
       have b3 := xb2.c99
       have b4 := xb2.c100
       have b5 := xb2.c101
       have b6 := xb2.c102
       have b7 := xb2.c103
       have b8 := xb2.c104))
  go_upto_region 3 with (first
    | (refine wpl_build (by rfl) _ _ rfl (numC b).toArray (by kernel_rfl) ?_)
    | (refine wpl_store_fld (by rfl) _ _ _ rfl w1.heap.size 0 _ _ (numC b) rfl _ rfl rfl (Blk.new w1 _ _) (by simp [numC]) info_num NB.out ?_
       intro w3 bz3 bu3
       rw [put_all _ _ (by rfl)] at bz3
       have g1 := (Below.refl w1.heap.size w1).alloc (Nat.le_refl _) (.cells #[.int .i64 0, .int .i64 0, .int .i64 0, .int .i64 0, .int .i64 0, .int .i64 0, .int .i64 0, .bool false] 118)
       have g2 := g1.trans (below_but bu3 (Nat.le_refl _) g1.size)
       have f3 := f2.trans (g2.mono f2.size)
       have xa3 := xa2.to g2
       have xb3 := xb2.to g2
       have bz1' := bz1.to g2
       have f4 := hbw.trans (f3.mono hbw.size)
       have a0 := xa3.c0
       have b0 := xb3.c0
       clear b1 b2 b3 b4 b5 b6 b7 b8 bu3 g1 g2 bz1 xa2 xb2 f2))
  have tok11 : True := trivial
  have tok12 : True := trivial
  have tok13 : True := trivial
  have tok14 : True := trivial
  have tok15 : True := trivial
  have tok16 : True := trivial
  have tok17 : True := trivial
  have tok18 : True := trivial
  have tok19 : True := trivial
  have tok20 : True := trivial
  go_wp2_with (first
    | (have _t := tok11; refine wpl_load_fld (by rfl) _ _ rfl W.heap.size 0 rfl (numC a) _ bz1'.range Try.underlying118 rfl info_num ?_; clear tok11)
    | (have _t := tok12; refine wpl_load_fld (by rfl) _ _ rfl w1.heap.size 0 rfl (numC b) _ bz3.range Try.underlying118 rfl info_num ?_; clear tok12))
  go_ret
  exact ⟨(show Ending.returned (.bool false) = _ from by rw [HF.out]), f4⟩
theorem same_any (A : Option Addr) (n c : Nat) (hs : List (List UInt8)) (a : GD) (A2 : Option Addr) (n2 c2 : Nat) (hs2 : List (List UInt8)) (b : GD) (w : World) (h : Sl w 32 A n (H8 hs)) (hl : ∀ x ∈ hs, x.length = 32) (h2 : Sl w 32 A2 n2 (H8 hs2)) (hl2 : ∀ x ∈ hs2, x.length = 32) (hn : n ≤ 4194304) (hn2 : n2 ≤ 4194304)
    (ga : GLen a) (gb : GLen b) : Calls Try.prog 58 #[gval (.slice A n c) a, gval (.slice A2 n2 c2) b] w (RB (decide (a = b ∧ hs = hs2)) w) := by
  by_cases h1 : numEq a b
  · by_cases h3 : rootEq a b
    · exact same_e A n c hs a A2 n2 c2 hs2 b w h hl h2 hl2 hn hn2 ga gb h1 h3
    · exact same_r A n c hs a A2 n2 c2 hs2 b w h hl h2 hl2 hn hn2 ga gb h1 h3
  · exact same_n A n c hs a A2 n2 c2 hs2 b w h hl h2 hl2 hn hn2 ga gb h1
end Go.Proofs.Ytgljcfemindgoaa
/- Walks: two courts that read as one are the same. -/
set_option linter.unusedSimpArgs false
set_option linter.unusedVariables false
namespace Go.Proofs.Ytgljcfemindgoaa
open Go.RowKit
set_option maxRecDepth 100000
set_option maxRecDepth 100000 in
set_option maxHeartbeats 2000000 in
theorem sameS_one (v1 v2 : Value) (s : SU) (hs : s.ok) (w : World) (h1 : HsX [] w v1 s.hs) (h2 : HsX [] w v2 s.hs) :
    Calls Try.prog 57 #[.agg (suF (v1, s)).toArray, .agg (suF (v2, s)).toArray] w (RB true w) := by
  obtain ⟨A, n, c, rfl, sl, hn, _, _⟩ := h1
  obtain ⟨A2, n2, c2, rfl, sl2, hn2, _, _⟩ := h2
  obtain ⟨W, HW, hbw, ba, bb⟩ : ∃ W, Hid (W = (w.alloc (.cells (suF (.slice A n c, s)).toArray 49)).alloc (.cells (suF (.slice A2 n2 c2, s)).toArray 49)) ∧ Below w.heap.size w W ∧
      Blk W w.heap.size 49 (suF (.slice A n c, s)) ∧ Blk W (w.heap.size + 1) 49 (suF (.slice A2 n2 c2, s)) := by
    refine ⟨_, rfl, ((Below.refl _ _).alloc (Nat.le_refl _) _).alloc (by simp) _, ?_, ?_⟩
    · exact (Blk.new w (suF (.slice A n c, s)).toArray 49).to ((Below.refl _ _).alloc (Nat.le_refl _) _)
    · have := Blk.new (w.alloc (.cells (suF (.slice A n c, s)).toArray 49)) (suF (.slice A2 n2 c2, s)).toArray 49
      rw [show (w.alloc (.cells (suF (.slice A n c, s)).toArray 49)).heap.size = w.heap.size + 1 from by simp] at this
      exact this
  have HS := Lib.hid hs
  have slW := sl.to hbw
  have slW2 := sl2.to hbw
  have ka : W.cell? ⟨w.heap.size, 0, none⟩ = some (.int .i64 s.by_) := by rw [ba.cell]; exact su_by
  have kb : W.cell? ⟨w.heap.size + 1, 0, none⟩ = some (.int .i64 s.by_) := by rw [bb.cell]; exact su_by
  have ra := ba.sub 1 (gcells (.slice A n c) s.g) su_g
  have rb := bb.sub 1 (gcells (.slice A2 n2 c2) s.g) su_g
  have IG : Hid ((Try.prog.info? 47).map (·.size) = some (gcells (.slice A n c) s.g).length) := (show _ = _ by rw [gcells_len hs.g]; exact info_g)
  have IG2 : Hid ((Try.prog.info? 47).map (·.size) = some (gcells (.slice A2 n2 c2) s.g).length) := (show _ = _ by rw [gcells_len hs.g]; exact info_g)
  have hn4 := hs.n
  clear hs sl sl2
  go_enter Try.func57, Try.ntmps57
  go_upto_region 1 with fail
  refine wp_at HW.out ?_
  clear HW
  go_wp2_with (first
    | (refine wpl_load_fld (by rfl) _ _ rfl w.heap.size 1 rfl (gcells (.slice A n c) s.g) _ ra Try.underlying47 rfl IG.out ?_)
    | (refine wpl_load_fld (by rfl) _ _ rfl (w.heap.size + 1) 1 rfl (gcells (.slice A2 n2 c2) s.g) _ rb Try.underlying47 rfl IG2.out ?_))
  refine (same_any A n c s.hs s.g A2 n2 c2 s.hs s.g W slW HS.out.hs slW2 HS.out.hs (by omega) (by omega) HS.out.g HS.out.g).mono ?_
  rintro e w1 ⟨rfl, hb1⟩
  rw [decide_eq_true ⟨rfl, rfl⟩]
  go_wp2_with fail
  go_ret
  exact ⟨rfl, hbw.trans (hb1.mono hbw.size)⟩
set_option maxRecDepth 100000 in
set_option maxHeartbeats 4000000 in
theorem eqSuits_any (v1 v2 : Value) (ss : List SU) (hok : ∀ s ∈ ss, s.ok) (w : World) (h1 : SuX [] w v1 ss) (h2 : SuX [] w v2 ss) (hlen : ss.length ≤ 4096) :
    Calls Try.prog 56 #[v1, v2, .func (.func 57) #[] #[]] w (RB true w) := by
  obtain ⟨A, n, c, l, rfl, sl, hm, hn, _, _, hh⟩ := h1
  obtain ⟨A2, n2, c2, l2, rfl, sl2, hm2, hn2, _, _, hh2⟩ := h2
  have hl : ss.length = n := by rw [← hm, List.length_map]; exact hn
  have hl2 : ss.length = n2 := by rw [← hm2, List.length_map]; exact hn2
  obtain rfl : n2 = n := by omega
  have hnm : n2 ≤ 4096 := by omega
  have HOK := Lib.hid hok
  have HM := Lib.hid hm
  have HM2 := Lib.hid hm2
  have HH := Lib.hid hh
  have HH2 := Lib.hid hh2
  have HN := Lib.hid hl
  have hr1 : ∀ a ∈ l, (suF a).length = 106 := fun a ha => suF_len (hok a.2 (mem_snd hm ha)).g
  have hr2 : ∀ a ∈ l2, (suF a).length = 106 := fun a ha => suF_len (hok a.2 (mem_snd hm2 ha)).g
  have HR1 := Lib.hid hr1
  have HR2 := Lib.hid hr2
  clear hok hm hm2 hh hh2 hr1 hr2 hn hn2 hl hl2 hlen
  go_enter Try.func56, Try.ntmps56
  go_wp2_with fail
  go_loopw [17] (fun k wr => ∃ q : Nat, k = .int .i64 (q : Int) ∧ q ≤ n2 ∧ Below w.heap.size w wr) (fun k _ => n2 - (intOf k).toNat)
  case atStart => exact ⟨0, rfl, Nat.zero_le _, Below.refl _ _⟩
  case round =>
    obtain ⟨q, rfl, hq, hf⟩ := hrel
    by_cases hlt : q < n2
    · have t1 : (q : Int) < (n2 : Int) := by omega
      obtain ⟨s, hs⟩ : ∃ s, ss[q]? = some s := ⟨_, List.getElem?_eq_getElem (by rw [HN.out]; exact hlt)⟩
      have HSO : Hid s.ok := HOK.out s (List.mem_of_getElem? hs)
      obtain ⟨u1, hu1⟩ := snd_get HM.out hs
      obtain ⟨u2, hu2⟩ := snd_get HM2.out hs
      have HX1 := HH.out (u1, s) (List.mem_of_getElem? hu1)
      have HX2 := HH2.out (u2, s) (List.mem_of_getElem? hu2)
      obtain ⟨b1, o1, rfl, hb1⟩ := sl.some_ (by omega)
      obtain ⟨b2, o2, rfl, hb2⟩ := sl2.some_ (by omega)
      have slr := sl.to hf
      have slr2 := sl2.to hf
      have rg1 : wr.rangeAt b1 (o1 + q * 106) (suF (u1, s)) := fun j v hv => by
        rw [Nat.add_assoc]
        refine slr.cell ?_
        have hj : j < 106 := by have := (List.getElem?_eq_some_iff.1 hv).1; rw [suF_len (p := (u1, s)) HSO.out.g] at this; exact this
        have := rows_get l HR1.out [] hu1 hj
        rw [List.append_nil] at this
        rw [this]
        exact hv
      have rg2 : wr.rangeAt b2 (o2 + q * 106) (suF (u2, s)) := fun j v hv => by
        rw [Nat.add_assoc]
        refine slr2.cell ?_
        have hj : j < 106 := by have := (List.getElem?_eq_some_iff.1 hv).1; rw [suF_len (p := (u2, s)) HSO.out.g] at this; exact this
        have := rows_get l2 HR2.out [] hu2 hj
        rw [List.append_nil] at this
        rw [this]
        exact hv
      have I1 := Lib.hid (info_su (p := (u1, s)) HSO.out.g)
      have I2 := Lib.hid (info_su (p := (u2, s)) HSO.out.g)
      have o1x := HX1.one
      have o2x := HX2.one
      have tok1 : True := trivial
      have tok2 : True := trivial
      go_wp2_with (first
        | (have _t := tok1
           refine wpl_load_fld (by rfl) _ _ rfl b1 (o1 + q * 106) rfl (suF (u1, s)) _ rg1 Try.underlying49 rfl I1.out ?_
           clear tok1)
        | (refine wpl_store_new rfl _ _ _ rfl 49 _ (suF (u1, s)) rfl rfl (by rw [suF_len (p := (u1, s)) HSO.out.g]; rfl) I1.out (suF_one o1x) ?_
           intro w4 bX hbX
           simp only [Act.put, List.setIfInBounds_toArray, List.set_cons_zero, List.set_cons_succ]
           have rg3 : w4.rangeAt b2 (o2 + q * 106) (suF (u2, s)) := range_keep rg2 (hbX.block b2 (by have := hf.size; omega)))
        | (have _t := tok2
           refine wpl_load_fld (by rfl) _ _ rfl b2 (o2 + q * 106) rfl (suF (u2, s)) _ rg3 Try.underlying49 rfl I2.out ?_
           clear tok2)
        | (refine wpl_store_new rfl _ _ _ rfl 49 _ (suF (u2, s)) rfl rfl (by rw [suF_len (p := (u2, s)) HSO.out.g]; rfl) I2.out (suF_one o2x) ?_
           intro w5 bY hbY
           simp only [Act.put, List.setIfInBounds_toArray, List.set_cons_zero, List.set_cons_succ]
           have bX5 := bX.to hbY)
        | (refine wpl_load_fld (by rfl) _ _ rfl wr.heap.size 0 rfl (suF (u1, s)) _ bX5.range Try.underlying49 rfl I1.out ?_)
        | (refine wpl_load_fld (by rfl) _ _ rfl w4.heap.size 0 rfl (suF (u2, s)) _ bY.range Try.underlying49 rfl I2.out ?_))
      have f4 := hf.trans (hbX.mono hf.size)
      have f5 := f4.trans (hbY.mono f4.size)
      refine (sameS_one u1 u2 s HSO.out w5 (HX1.to f5) (HX2.to f5)).mono ?_
      rintro e w6 ⟨rfl, hb6⟩
      have f6 := f5.trans (hb6.mono f5.size)
      go_wp2_with fail
      go_roundw
      case rel => exact ⟨q + 1, by go_num, by omega, f6⟩
      case measure => simp [intOf]; omega
    · obtain rfl : q = n2 := by omega
      have t1 : ¬ (q : Int) < (q : Int) := by omega
      go_wp2_with fail
      go_ret
      exact ⟨rfl, hf⟩
set_option maxRecDepth 100000 in
set_option maxHeartbeats 4000000 in
theorem sameCl_one (v1 v2 : Value) (x : CL) (hx : x.ok) (w : World) (h1 : SuX [] w v1 x.suits) (h2 : SuX [] w v2 x.suits) :
    Calls Try.prog 34 #[.agg (clF (v1, x)).toArray, .agg (clF (v2, x)).toArray] w (RB true w) := by
  obtain ⟨W, HW, hbw, ba, bb⟩ : ∃ W, Hid (W = (w.alloc (.cells (clF (v1, x)).toArray 38)).alloc (.cells (clF (v2, x)).toArray 38)) ∧ Below w.heap.size w W ∧
      Blk W w.heap.size 38 (clF (v1, x)) ∧ Blk W (w.heap.size + 1) 38 (clF (v2, x)) := by
    refine ⟨_, rfl, ((Below.refl _ _).alloc (Nat.le_refl _) _).alloc (by simp) _, ?_, ?_⟩
    · exact (Blk.new w (clF (v1, x)).toArray 38).to ((Below.refl _ _).alloc (Nat.le_refl _) _)
    · have := Blk.new (w.alloc (.cells (clF (v1, x)).toArray 38)) (clF (v2, x)).toArray 38
      rw [show (w.alloc (.cells (clF (v1, x)).toArray 38)).heap.size = w.heap.size + 1 from by simp] at this
      exact this
  have HX := Lib.hid hx
  have h1W := h1.to hbw
  have h2W := h2.to hbw
  have ka0 : W.cell? ⟨w.heap.size, 0, none⟩ = some (.int .i64 x.by_) := by rw [ba.cell]; exact cl_by
  have ka1 : W.cell? ⟨w.heap.size, 1, none⟩ = some (.int .i64 x.n) := by rw [ba.cell]; exact cl_n
  have ka2 : W.cell? ⟨w.heap.size, 2, none⟩ = some (.int .i64 x.at_) := by rw [ba.cell]; exact cl_at
  have ka3 : W.cell? ⟨w.heap.size, 3, none⟩ = some (.int .i64 x.st) := by rw [ba.cell]; exact cl_st
  have ka5 : W.cell? ⟨w.heap.size, 36, none⟩ = some v1 := by rw [ba.cell]; exact cl_suits hx.root
  have kb0 : W.cell? ⟨w.heap.size + 1, 0, none⟩ = some (.int .i64 x.by_) := by rw [bb.cell]; exact cl_by
  have kb1 : W.cell? ⟨w.heap.size + 1, 1, none⟩ = some (.int .i64 x.n) := by rw [bb.cell]; exact cl_n
  have kb2 : W.cell? ⟨w.heap.size + 1, 2, none⟩ = some (.int .i64 x.at_) := by rw [bb.cell]; exact cl_at
  have kb3 : W.cell? ⟨w.heap.size + 1, 3, none⟩ = some (.int .i64 x.st) := by rw [bb.cell]; exact cl_st
  have kb5 : W.cell? ⟨w.heap.size + 1, 36, none⟩ = some v2 := by rw [bb.cell]; exact cl_suits hx.root
  have ra := ba.sub 4 (B8 x.root) cl_root
  have rb := bb.sub 4 (B8 x.root) cl_root
  have eq1 : ∀ w', (Op.equalIn 10000 25 (.agg (B8 x.root).toArray) (.agg (B8 x.root).toArray)).run Try.prog w' = .ok true w' := fun w' => by
    rw [eq_hash x.root x.root hx.root hx.root w']
    simp
  clear hx h1 h2
  go_enter Try.func34, Try.ntmps34
  go_upto_region 1 with fail
  refine wp_at HW.out ?_
  clear HW
  go_wp2_with (first
    | (refine wpl_load_fld (by rfl) _ _ rfl w.heap.size 4 rfl (B8 x.root) _ ra Try.underlying25 rfl (info_hash HX.out.root) ?_)
    | (refine wpl_load_fld (by rfl) _ _ rfl (w.heap.size + 1) 4 rfl (B8 x.root) _ rb Try.underlying25 rfl (info_hash HX.out.root) ?_))
  refine (eqSuits_any v1 v2 x.suits HX.out.suits W h1W h2W HX.out.n).mono ?_
  rintro e w1 ⟨rfl, hb1⟩
  go_wp2_with fail
  go_ret
  exact ⟨rfl, hbw.trans (hb1.mono hbw.size)⟩
set_option maxRecDepth 100000 in
set_option maxHeartbeats 4000000 in
theorem eqClaims_any (v1 v2 : Value) (ss : List CL) (hok : ∀ s ∈ ss, s.ok) (w : World) (h1 : ClX [] w v1 ss) (h2 : ClX [] w v2 ss) (hlen : ss.length ≤ 4096) :
    Calls Try.prog 33 #[v1, v2, .func (.func 34) #[] #[]] w (RB true w) := by
  obtain ⟨A, n, c, l, rfl, sl, hm, hn, _, _, hh⟩ := h1
  obtain ⟨A2, n2, c2, l2, rfl, sl2, hm2, hn2, _, _, hh2⟩ := h2
  have hl : ss.length = n := by rw [← hm, List.length_map]; exact hn
  have hl2 : ss.length = n2 := by rw [← hm2, List.length_map]; exact hn2
  obtain rfl : n2 = n := by omega
  have hnm : n2 ≤ 4096 := by omega
  have HOK := Lib.hid hok
  have HM := Lib.hid hm
  have HM2 := Lib.hid hm2
  have HH := Lib.hid hh
  have HH2 := Lib.hid hh2
  have HN := Lib.hid hl
  have hr1 : ∀ a ∈ l, (clF a).length = 37 := fun a ha => clF_len (hok a.2 (mem_snd hm ha)).root
  have hr2 : ∀ a ∈ l2, (clF a).length = 37 := fun a ha => clF_len (hok a.2 (mem_snd hm2 ha)).root
  have HR1 := Lib.hid hr1
  have HR2 := Lib.hid hr2
  clear hok hm hm2 hh hh2 hr1 hr2 hn hn2 hl hl2 hlen
  go_enter Try.func33, Try.ntmps33
  go_wp2_with fail
  go_loopw [17] (fun k wr => ∃ q : Nat, k = .int .i64 (q : Int) ∧ q ≤ n2 ∧ Below w.heap.size w wr) (fun k _ => n2 - (intOf k).toNat)
  case atStart => exact ⟨0, rfl, Nat.zero_le _, Below.refl _ _⟩
  case round =>
    obtain ⟨q, rfl, hq, hf⟩ := hrel
    by_cases hlt : q < n2
    · have t1 : (q : Int) < (n2 : Int) := by omega
      obtain ⟨s, hs⟩ : ∃ s, ss[q]? = some s := ⟨_, List.getElem?_eq_getElem (by rw [HN.out]; exact hlt)⟩
      have HSO : Hid s.ok := HOK.out s (List.mem_of_getElem? hs)
      obtain ⟨u1, hu1⟩ := snd_get HM.out hs
      obtain ⟨u2, hu2⟩ := snd_get HM2.out hs
      have HX1 := HH.out (u1, s) (List.mem_of_getElem? hu1)
      have HX2 := HH2.out (u2, s) (List.mem_of_getElem? hu2)
      obtain ⟨b1, o1, rfl, hb1⟩ := sl.some_ (by omega)
      obtain ⟨b2, o2, rfl, hb2⟩ := sl2.some_ (by omega)
      have slr := sl.to hf
      have slr2 := sl2.to hf
      have rg1 : wr.rangeAt b1 (o1 + q * 37) (clF (u1, s)) := fun j v hv => by
        rw [Nat.add_assoc]
        refine slr.cell ?_
        have hj : j < 37 := by have := (List.getElem?_eq_some_iff.1 hv).1; rw [clF_len (p := (u1, s)) HSO.out.root] at this; exact this
        have := rows_get l HR1.out [] hu1 hj
        rw [List.append_nil] at this
        rw [this]
        exact hv
      have rg2 : wr.rangeAt b2 (o2 + q * 37) (clF (u2, s)) := fun j v hv => by
        rw [Nat.add_assoc]
        refine slr2.cell ?_
        have hj : j < 37 := by have := (List.getElem?_eq_some_iff.1 hv).1; rw [clF_len (p := (u2, s)) HSO.out.root] at this; exact this
        have := rows_get l2 HR2.out [] hu2 hj
        rw [List.append_nil] at this
        rw [this]
        exact hv
      have I1 := Lib.hid (info_cl (p := (u1, s)) HSO.out.root)
      have I2 := Lib.hid (info_cl (p := (u2, s)) HSO.out.root)
      have o1x := HX1.one
      have o2x := HX2.one
      have tok1 : True := trivial
      have tok2 : True := trivial
      go_wp2_with (first
        | (have _t := tok1
           refine wpl_load_fld (by rfl) _ _ rfl b1 (o1 + q * 37) rfl (clF (u1, s)) _ rg1 Try.underlying38 rfl I1.out ?_
           clear tok1)
        | (refine wpl_store_new rfl _ _ _ rfl 38 _ (clF (u1, s)) rfl rfl (by rw [clF_len (p := (u1, s)) HSO.out.root]; rfl) I1.out (clF_one o1x) ?_
           intro w4 bX hbX
           simp only [Act.put, List.setIfInBounds_toArray, List.set_cons_zero, List.set_cons_succ]
           have rg3 : w4.rangeAt b2 (o2 + q * 37) (clF (u2, s)) := range_keep rg2 (hbX.block b2 (by have := hf.size; omega)))
        | (have _t := tok2
           refine wpl_load_fld (by rfl) _ _ rfl b2 (o2 + q * 37) rfl (clF (u2, s)) _ rg3 Try.underlying38 rfl I2.out ?_
           clear tok2)
        | (refine wpl_store_new rfl _ _ _ rfl 38 _ (clF (u2, s)) rfl rfl (by rw [clF_len (p := (u2, s)) HSO.out.root]; rfl) I2.out (clF_one o2x) ?_
           intro w5 bY hbY
           simp only [Act.put, List.setIfInBounds_toArray, List.set_cons_zero, List.set_cons_succ]
           have bX5 := bX.to hbY)
        | (refine wpl_load_fld (by rfl) _ _ rfl wr.heap.size 0 rfl (clF (u1, s)) _ bX5.range Try.underlying38 rfl I1.out ?_)
        | (refine wpl_load_fld (by rfl) _ _ rfl w4.heap.size 0 rfl (clF (u2, s)) _ bY.range Try.underlying38 rfl I2.out ?_))
      have f4 := hf.trans (hbX.mono hf.size)
      have f5 := f4.trans (hbY.mono f4.size)
      refine (sameCl_one u1 u2 s HSO.out w5 (HX1.to f5) (HX2.to f5)).mono ?_
      rintro e w6 ⟨rfl, hb6⟩
      have f6 := f5.trans (hb6.mono f5.size)
      go_wp2_with fail
      go_roundw
      case rel => exact ⟨q + 1, by go_num, by omega, f6⟩
      case measure => simp [intOf]; omega
    · obtain rfl : q = n2 := by omega
      have t1 : ¬ (q : Int) < (q : Int) := by omega
      go_wp2_with fail
      go_ret
      exact ⟨rfl, hf⟩
end Go.Proofs.Ytgljcfemindgoaa
