/- The texts of this claim, part J: words, plain laws, walks. -/
import Derived.Test.YtdopgooglicaiaaPartC
import Derived.Test.YtdopgooglicaiaaPartE
import Derived.Test.YtdopgooglicaiaaPartH
import Derived.Test.YtdopgooglicaiaaPartG
import Derived.Test.YtdopgooglicaiaaPartI
/- The walks of capstanlaw16's within and known. -/
set_option linter.unusedSimpArgs false
set_option linter.unusedVariables false
namespace Go.Proofs.Ytdopgooglicaiaa
open Go.RowKit
set_option maxRecDepth 100000
/-- a sum of one byte, and noughts -/
def one_ (x : UInt8) : List UInt8 := x :: List.replicate 31 0
theorem one_len (x : UInt8) : (one_ x).length = 32 := by simp [one_]
theorem built_one1 : Try.prog.built 25 [(0, .int .u8 1)] = some (B8 (one_ 1)).toArray := by kernel_rfl
theorem built_one2 : Try.prog.built 25 [(0, .int .u8 2)] = some (B8 (one_ 2)).toArray := by kernel_rfl
theorem built_one3 : Try.prog.built 25 [(0, .int .u8 3)] = some (B8 (one_ 3)).toArray := by kernel_rfl
end Go.Proofs.Ytdopgooglicaiaa
/- Walks: the law's known example, its hall. -/
set_option linter.unusedSimpArgs false
set_option linter.unusedVariables false
namespace Go.Proofs.Ytdopgooglicaiaa
open Go.RowKit
set_option maxRecDepth 100000
theorem within_capstanlaw17 (a n : Int) (w : World) (hn : 0 < n) (hn2 : n < 1099511627776) (ha : -9223372036854775808 ≤ a) (ha2 : a < 9223372036854775808) :
    Calls Try.prog 10 #[.int .i64 a, .int .i64 n] w fun e w' => e = .returned (.int .i64 (a % n)) ∧ w = w' := by
  have e1 : a % n = if a.tmod n < 0 then a.tmod n + n else a.tmod n := by
    rw [Int.tmod_eq_emod]
    have := Int.emod_nonneg a (show n ≠ 0 by omega)
    have := Int.emod_lt_of_pos a hn
    have hnn : (n.natAbs : Int) = n := by omega
    split <;> split <;> omega
  have b1 : -n < a.tmod n := by have := Int.lt_tmod_of_pos a hn; omega
  have b2 : a.tmod n < n := Int.tmod_lt_of_pos a hn
  have H := Lib.hid e1
  clear e1
  by_cases h : a.tmod n < 0
  · go_enter Try.func10, Try.ntmps10
    go_wp2
    go_ret
    exact ⟨ret_int (by rw [H.out, if_pos h]), rfl⟩
  · go_enter Try.func10, Try.ntmps10
    go_wp2
    go_ret
    exact ⟨ret_int (by rw [H.out, if_neg (Int.not_lt.2 h)]), rfl⟩
theorem builtC1 : Try.prog.built 25 [(0, .int .u8 1)] = some (B8 (one_ 1)).toArray := by kernel_rfl
theorem builtC2 : Try.prog.built 25 [(0, .int .u8 2)] = some (B8 (one_ 2)).toArray := by kernel_rfl
theorem builtC3 : Try.prog.built 25 [(0, .int .u8 3)] = some (B8 (one_ 3)).toArray := by kernel_rfl
theorem builtC4 : Try.prog.built 25 [(0, .int .u8 4)] = some (B8 (one_ 4)).toArray := by kernel_rfl
theorem builtC9 : Try.prog.built 25 [(0, .int .u8 9)] = some (B8 (one_ 9)).toArray := by kernel_rfl
theorem cell_next {C : Nat} {w' w'' : World} {v : Value} {c : CO} (h : CoX [C] w' v c) (hr : RBut (some C) w' w'') : CoX [] w'' v c := (h.but hr (by simp)).less (fun _ h => by cases h)
def newCO (e : Int) : CO := ⟨0, one_ 1, [], List.replicate 8 e, []⟩
theorem newCO_ok (e : Int) : (newCO e).ok := ⟨rfl, fun _ h => (by cases h), Nat.zero_le _, rfl, fun _ h => (by cases h), Nat.zero_le _⟩
def hallC (e : Int) (l : List (List UInt8)) : CO := ⟨0, one_ 1, l, List.replicate 8 e, []⟩
theorem hallC_ok (e : Int) (l : List (List UInt8)) (h : ∀ x ∈ l, x.length = 32) (hn : l.length ≤ 500) : (hallC e l).ok := ⟨rfl, h, by show l.length ≤ _; omega, rfl, fun _ h => (by cases h), Nat.zero_le _⟩
set_option maxRecDepth 100000 in
set_option maxHeartbeats 4000000 in
theorem hall_any (e : Int) (n : Nat) (h0 : 0 ≤ e) (h1 : e ≤ 10000) (hn : n ≤ 500) (w : World) :
    Calls Try.prog 11 #[.int .i64 e, .int .i64 n] w fun en w' => ∃ v, en = .returned v ∧ (∀ S : List Nat, (∀ b ∈ S, b < w.heap.size) → CoX S w' v (hallC e (hashL n))) ∧ Below w.heap.size w w' := by
  obtain ⟨W, HW, hbw, bz⟩ : ∃ W, Hid (W = w.alloc (.cells #[.int .i64 0, .int .u8 0, .int .u8 0, .int .u8 0, .int .u8 0, .int .u8 0, .int .u8 0, .int .u8 0, .int .u8 0, .int .u8 0, .int .u8 0, .int .u8 0, .int .u8 0, .int .u8 0, .int .u8 0, .int .u8 0, .int .u8 0, .int .u8 0, .int .u8 0, .int .u8 0, .int .u8 0, .int .u8 0, .int .u8 0, .int .u8 0, .int .u8 0, .int .u8 0, .int .u8 0, .int .u8 0, .int .u8 0, .int .u8 0, .int .u8 0, .int .u8 0, .int .u8 0, .slice none 0 0, .int .i64 0, .int .i64 0, .int .i64 0, .int .i64 0, .int .i64 0, .int .i64 0, .int .i64 0, .int .i64 0, .slice none 0 0] 30)) ∧ Below w.heap.size w W ∧ Blk W w.heap.size 30 zeroCC :=
    ⟨_, rfl, (Below.refl _ _).alloc (Nat.le_refl _) _, Blk.new w #[.int .i64 0, .int .u8 0, .int .u8 0, .int .u8 0, .int .u8 0, .int .u8 0, .int .u8 0, .int .u8 0, .int .u8 0, .int .u8 0, .int .u8 0, .int .u8 0, .int .u8 0, .int .u8 0, .int .u8 0, .int .u8 0, .int .u8 0, .int .u8 0, .int .u8 0, .int .u8 0, .int .u8 0, .int .u8 0, .int .u8 0, .int .u8 0, .int .u8 0, .int .u8 0, .int .u8 0, .int .u8 0, .int .u8 0, .int .u8 0, .int .u8 0, .int .u8 0, .int .u8 0, .slice none 0 0, .int .i64 0, .int .i64 0, .int .i64 0, .int .i64 0, .int .i64 0, .int .i64 0, .int .i64 0, .int .i64 0, .slice none 0 0] 30⟩
  have hWz := bz.lt
  go_enter Try.func11, Try.ntmps11
  go_upto_region 1 with fail
  refine wp_at HW.out ?_
  clear HW
  go_wp2_with (first
    | (refine wpl_build (by rfl) _ _ rfl _ (by exact builtC1) ?_))
  refine (newC_any (one_ 1) rfl e h0 h1 W).mono ?_
  rintro en w1 ⟨v1, rfl, hs1, hb1⟩
  obtain ⟨vt1, vc1, rfl, ht1, hc1⟩ := hs1 [] (fun _ h => by cases h)
  have bz1 := bz.to hb1
  have f1 := hbw.trans (hb1.mono hbw.size)
  have o1t := ht1.one
  have o1c := hc1.one
  have I1 := Lib.hid (info_co (vt := vt1) (vc := vc1) (c := newCO e) rfl rfl)
  have L1 : Hid ((coC vt1 vc1 (newCO e)).length = 43) := Lib.hid (coC_len (c := newCO e) rfl rfl)
  clear hs1 bz hb1

  go_wp2_with (first
    | (refine wpl_store_new rfl _ _ _ rfl 30 _ (coC vt1 vc1 (newCO e)) rfl rfl (by rw [L1.out]; rfl) I1.out (coC_one o1t o1c) ?_
       intro w2 b2 hb2
       simp only [Act.put, List.setIfInBounds_toArray, List.set_cons_zero, List.set_cons_succ]))
  have bz2 := bz1.to hb2
  have f2 := f1.trans (hb2.mono f1.size)
  have hX2 : CoX [] w2 (.agg (coC vt1 vc1 (newCO e)).toArray) (newCO e) := CoX.to (c := newCO e) ⟨vt1, vc1, rfl, ht1, hc1⟩ hb2
  obtain ⟨C, hC⟩ : ∃ C, w1.heap.size = C := ⟨_, rfl⟩
  have hwC : w.heap.size < C := by rw [← hC]; exact bz1.lt
  rw [hC] at b2 ⊢
  clear hC bz1 f1 ht1 hc1 hb2 hWz
  refine wp_region_P (.take 1 (.two 0 (.one 2 (.one 3 (.take 4 (.take 5 (.take 6 (.one 7 .done)))))) 2 (.one 0 (.one 3 (.take 4 (.take 5 (.take 6 (.one 7 .done)))))))) (RBut (some C)) (by kernel_rfl) (by kernel_rfl) (by kernel_rfl) (by decide +kernel) (RBut.refl_ _) (RBut.trans_ _) (by intro d v c a w h; first | (cases d <;> exact h) | exact absurd h.1 (by simp)) ?_
  have bcv : Blk w2.drew C 30 (coC vt1 vc1 (newCO e)) := b2
  have bzv : Blk w2.drew w.heap.size 30 zeroCC := bz2
  have hXv : CoX [] w2.drew (.agg (coC vt1 vc1 (newCO e)).toArray) (newCO e) := hX2.drew
  have fw : Below w.heap.size w w2.drew := f2.drew
  clear b2 bz2 hX2 f2
  have HCW : Hid (w.heap.size < w2.drew.heap.size) := bzv.lt
  have HCW2 : Hid (w.heap.size < C) := hwC
  generalize w2.drew = V0 at *
  have fv : Below V0.heap.size V0 V0 := Below.refl _ _
  first | (refine wpP_quiet (v := ?_) rfl (by rfl) ?_ ?_; rotate_left; (· (intro w' hw'; go_simp; try with_reducible rfl)); simp only [Act.put, List.setIfInBounds_toArray, List.set_cons_zero, List.set_cons_succ]) | (refine wpP_skip rfl (by rfl) ?_; simp only [Act.put, List.setIfInBounds_toArray, List.set_cons_zero, List.set_cons_succ])
  refine wpP_two ?_ ?_
  · refine wpP_loud rfl (by rfl) ?_
    intro K hK
    refine wp_load_mid _ _ rfl C 0 rfl (coC vt1 vc1 (newCO e)) _ bcv.range Try.underlying30 rfl I1.out ?_
    refine hK.out _ _ (RBut.refl_ _ _) ?_
    clear hK K
    try simp only [Act.put, List.setIfInBounds_toArray, List.set_cons_zero, List.set_cons_succ]
    refine wpP_one ?_
    refine wpP_loud rfl (by rfl) ?_
    intro K hK
    go_simp
    refine (hashes_any n _ (by omega)).mono ?_
    rintro en Vn ⟨Ah, ch, rfl, hoh, hbh⟩
    refine hK.out _ _ (RBut.of_below hbh) ?_
    clear hK K
    try simp only [Act.put, List.setIfInBounds_toArray, List.set_cons_zero, List.set_cons_succ]
    replace bcv := bcv.to hbh
    replace hXv := hXv.to hbh
    replace fv := fv.trans (hbh.mono fv.size)
    refine wpP_one ?_
    refine wpP_loud rfl (by rfl) ?_
    intro K hK
    go_simp
    refine (addC_any _ (newCO e) (newCO_ok e) Ah n ch (hashL n) (hashL_all n) Vn hoh.sl (hashL_len n) (by show 0 + n ≤ 500; omega) hXv).mono ?_
    rintro en Vm ⟨v3, rfl, hs3, hb3⟩
    have hCV := bcv.lt
    have hVV := fv.size
    obtain ⟨vt3, vc3, rfl, ht3, hc3⟩ := hs3 [C] (fun b hb => by rw [List.mem_singleton.1 hb]; exact bcv.lt)
    refine hK.out _ _ (RBut.of_below hb3) ?_
    clear hK K
    try simp only [Act.put, List.setIfInBounds_toArray, List.set_cons_zero, List.set_cons_succ]
    replace bcv := bcv.to hb3
    replace fv := fv.trans (hb3.mono fv.size)
    have o3t := ht3.one
    have o3c := hc3.one
    have I3 := Lib.hid (info_co (vt := vt3) (vc := vc3) (c := hallC e (hashL n)) rfl rfl)
    have L3 : Hid ((coC vt3 vc3 (hallC e (hashL n))).length = 43) := Lib.hid (coC_len (c := hallC e (hashL n)) rfl rfl)
    first | (refine wpP_quiet (v := ?_) rfl (by rfl) ?_ ?_; rotate_left; (· (intro w' hw'; go_simp; try with_reducible rfl)); simp only [Act.put, List.setIfInBounds_toArray, List.set_cons_zero, List.set_cons_succ]) | (refine wpP_skip rfl (by rfl) ?_; simp only [Act.put, List.setIfInBounds_toArray, List.set_cons_zero, List.set_cons_succ])
    first | (refine wpP_quiet (v := ?_) rfl (by rfl) ?_ ?_; rotate_left; (· (intro w' hw'; go_simp; try with_reducible rfl)); simp only [Act.put, List.setIfInBounds_toArray, List.set_cons_zero, List.set_cons_succ]) | (refine wpP_skip rfl (by rfl) ?_; simp only [Act.put, List.setIfInBounds_toArray, List.set_cons_zero, List.set_cons_succ])
    first | (refine wpP_quiet (v := ?_) rfl (by rfl) ?_ ?_; rotate_left; (· (intro w' hw'; go_simp; try with_reducible rfl)); simp only [Act.put, List.setIfInBounds_toArray, List.set_cons_zero, List.set_cons_succ]) | (refine wpP_skip rfl (by rfl) ?_; simp only [Act.put, List.setIfInBounds_toArray, List.set_cons_zero, List.set_cons_succ])
    refine wpP_one ?_
    refine wpP_loud rfl (by rfl) ?_
    intro K hK
    refine wp_store_fld _ _ _ rfl C 0 _ _ (coC vt3 vc3 (hallC e (hashL n))) rfl _ rfl rfl bcv (by rw [L1.out, L3.out]; exact Nat.le_refl _) I3.out (coC_one o3t o3c) ?_
    intro V4 b4 bu4
    rw [put_all _ _ (by rw [L1.out, L3.out])] at b4
    refine hK.out _ _ bu4 ?_
    clear hK K
    try simp only [Act.put, List.setIfInBounds_toArray, List.set_cons_zero, List.set_cons_succ]
    refine wpP_done ?_
    have HS4 : Hid (∀ S : List Nat, (∀ b ∈ S, b < w.heap.size + 1) → CoX S V4 (.agg (coC vt3 vc3 (hallC e (hashL n))).toArray) (hallC e (hashL n))) := (show ∀ S : List Nat, (∀ b ∈ S, b < w.heap.size + 1) → CoX S V4 (.agg (coC vt3 vc3 (hallC e (hashL n))).toArray) (hallC e (hashL n)) from fun S hS =>
      CoX.less (S := C :: S) (CoX.but (hs3 (C :: S) (fun b hb => (List.mem_cons.1 hb).elim (fun h => by omega) (fun h => by have := hS b h; have := HCW.out; omega))) bu4 (by simp)) (fun b hb => List.mem_cons_of_mem _ hb))
    have bz4 : Blk V4 w.heap.size 30 zeroCC := (bzv.below fv HCW.out).but bu4 (by intro e; injection e with e; have := HCW2.out; omega)
    have f4 := (fw.trans (fv.mono fw.size)).trans (below_but bu4 (Nat.le_of_lt HCW2.out) (Nat.le_trans fw.size fv.size))
    clear hs3 ht3 hc3 hCV hVV bzv hXv fw fv
    go_wp2_with (first
      | (refine wpl_load_fld (by rfl) _ _ rfl C 0 rfl (coC vt3 vc3 (hallC e (hashL n))) _ b4.range Try.underlying30 rfl I3.out ?_)
      | (refine wpl_store_fld (by rfl) _ _ _ rfl w.heap.size 0 _ _ (coC vt3 vc3 (hallC e (hashL n))) rfl _ rfl rfl bz4 (by rw [L3.out]; exact Nat.le_refl _) I3.out (coC_one o3t o3c) ?_
         intro V5 bz5 bu5
         rw [put_all _ _ (by rw [L3.out]; rfl)] at bz5))
    refine bodyPost_ret (v := .agg (coC vt3 vc3 (hallC e (hashL n))).toArray) (results_blk Try.results11 rfl bz5 Try.underlying30 rfl I3.out) rfl ?_
    exact ⟨_, rfl, fun S hS => CoX.less (S := w.heap.size :: S) (CoX.but (HS4.out (w.heap.size :: S) (fun b hb => (List.mem_cons.1 hb).elim (fun h => by omega) (fun h => by have := hS b h; omega))) bu5 (by simp)) (fun b hb => List.mem_cons_of_mem _ hb), f4.trans (below_but bu5 (Nat.le_refl _) f4.size)⟩
  · refine wpP_loud rfl (by rfl) ?_
    intro K hK
    go_simp
    refine (hashes_any n _ (by omega)).mono ?_
    rintro en Vn ⟨Ah, ch, rfl, hoh, hbh⟩
    refine hK.out _ _ (RBut.of_below hbh) ?_
    clear hK K
    try simp only [Act.put, List.setIfInBounds_toArray, List.set_cons_zero, List.set_cons_succ]
    replace bcv := bcv.to hbh
    replace hXv := hXv.to hbh
    replace fv := fv.trans (hbh.mono fv.size)
    refine wpP_one ?_
    refine wpP_loud rfl (by rfl) ?_
    intro K hK
    refine wp_load_mid _ _ rfl C 0 rfl (coC vt1 vc1 (newCO e)) _ bcv.range Try.underlying30 rfl I1.out ?_
    refine hK.out _ _ (RBut.refl_ _ _) ?_
    clear hK K
    try simp only [Act.put, List.setIfInBounds_toArray, List.set_cons_zero, List.set_cons_succ]
    refine wpP_one ?_
    refine wpP_loud rfl (by rfl) ?_
    intro K hK
    go_simp
    refine (addC_any _ (newCO e) (newCO_ok e) Ah n ch (hashL n) (hashL_all n) Vn hoh.sl (hashL_len n) (by show 0 + n ≤ 500; omega) hXv).mono ?_
    rintro en Vm ⟨v3, rfl, hs3, hb3⟩
    have hCV := bcv.lt
    have hVV := fv.size
    obtain ⟨vt3, vc3, rfl, ht3, hc3⟩ := hs3 [C] (fun b hb => by rw [List.mem_singleton.1 hb]; exact bcv.lt)
    refine hK.out _ _ (RBut.of_below hb3) ?_
    clear hK K
    try simp only [Act.put, List.setIfInBounds_toArray, List.set_cons_zero, List.set_cons_succ]
    replace bcv := bcv.to hb3
    replace fv := fv.trans (hb3.mono fv.size)
    have o3t := ht3.one
    have o3c := hc3.one
    have I3 := Lib.hid (info_co (vt := vt3) (vc := vc3) (c := hallC e (hashL n)) rfl rfl)
    have L3 : Hid ((coC vt3 vc3 (hallC e (hashL n))).length = 43) := Lib.hid (coC_len (c := hallC e (hashL n)) rfl rfl)
    first | (refine wpP_quiet (v := ?_) rfl (by rfl) ?_ ?_; rotate_left; (· (intro w' hw'; go_simp; try with_reducible rfl)); simp only [Act.put, List.setIfInBounds_toArray, List.set_cons_zero, List.set_cons_succ]) | (refine wpP_skip rfl (by rfl) ?_; simp only [Act.put, List.setIfInBounds_toArray, List.set_cons_zero, List.set_cons_succ])
    first | (refine wpP_quiet (v := ?_) rfl (by rfl) ?_ ?_; rotate_left; (· (intro w' hw'; go_simp; try with_reducible rfl)); simp only [Act.put, List.setIfInBounds_toArray, List.set_cons_zero, List.set_cons_succ]) | (refine wpP_skip rfl (by rfl) ?_; simp only [Act.put, List.setIfInBounds_toArray, List.set_cons_zero, List.set_cons_succ])
    first | (refine wpP_quiet (v := ?_) rfl (by rfl) ?_ ?_; rotate_left; (· (intro w' hw'; go_simp; try with_reducible rfl)); simp only [Act.put, List.setIfInBounds_toArray, List.set_cons_zero, List.set_cons_succ]) | (refine wpP_skip rfl (by rfl) ?_; simp only [Act.put, List.setIfInBounds_toArray, List.set_cons_zero, List.set_cons_succ])
    refine wpP_one ?_
    refine wpP_loud rfl (by rfl) ?_
    intro K hK
    refine wp_store_fld _ _ _ rfl C 0 _ _ (coC vt3 vc3 (hallC e (hashL n))) rfl _ rfl rfl bcv (by rw [L1.out, L3.out]; exact Nat.le_refl _) I3.out (coC_one o3t o3c) ?_
    intro V4 b4 bu4
    rw [put_all _ _ (by rw [L1.out, L3.out])] at b4
    refine hK.out _ _ bu4 ?_
    clear hK K
    try simp only [Act.put, List.setIfInBounds_toArray, List.set_cons_zero, List.set_cons_succ]
    refine wpP_done ?_
    have HS4 : Hid (∀ S : List Nat, (∀ b ∈ S, b < w.heap.size + 1) → CoX S V4 (.agg (coC vt3 vc3 (hallC e (hashL n))).toArray) (hallC e (hashL n))) := (show ∀ S : List Nat, (∀ b ∈ S, b < w.heap.size + 1) → CoX S V4 (.agg (coC vt3 vc3 (hallC e (hashL n))).toArray) (hallC e (hashL n)) from fun S hS =>
      CoX.less (S := C :: S) (CoX.but (hs3 (C :: S) (fun b hb => (List.mem_cons.1 hb).elim (fun h => by omega) (fun h => by have := hS b h; have := HCW.out; omega))) bu4 (by simp)) (fun b hb => List.mem_cons_of_mem _ hb))
    have bz4 : Blk V4 w.heap.size 30 zeroCC := (bzv.below fv HCW.out).but bu4 (by intro e; injection e with e; have := HCW2.out; omega)
    have f4 := (fw.trans (fv.mono fw.size)).trans (below_but bu4 (Nat.le_of_lt HCW2.out) (Nat.le_trans fw.size fv.size))
    clear hs3 ht3 hc3 hCV hVV bzv hXv fw fv
    go_wp2_with (first
      | (refine wpl_load_fld (by rfl) _ _ rfl C 0 rfl (coC vt3 vc3 (hallC e (hashL n))) _ b4.range Try.underlying30 rfl I3.out ?_)
      | (refine wpl_store_fld (by rfl) _ _ _ rfl w.heap.size 0 _ _ (coC vt3 vc3 (hallC e (hashL n))) rfl _ rfl rfl bz4 (by rw [L3.out]; exact Nat.le_refl _) I3.out (coC_one o3t o3c) ?_
         intro V5 bz5 bu5
         rw [put_all _ _ (by rw [L3.out]; rfl)] at bz5))
    refine bodyPost_ret (v := .agg (coC vt3 vc3 (hallC e (hashL n))).toArray) (results_blk Try.results11 rfl bz5 Try.underlying30 rfl I3.out) rfl ?_
    exact ⟨_, rfl, fun S hS => CoX.less (S := w.heap.size :: S) (CoX.but (HS4.out (w.heap.size :: S) (fun b hb => (List.mem_cons.1 hb).elim (fun h => by omega) (fun h => by have := hS b h; omega))) bu5 (by simp)) (fun b hb => List.mem_cons_of_mem _ hb), f4.trans (below_but bu5 (Nat.le_refl _) f4.size)⟩
end Go.Proofs.Ytdopgooglicaiaa
/- What CourtSues does to its court, party by party: plain. -/
set_option linter.unusedSimpArgs false
set_option linter.unusedVariables false
namespace Go.Proofs.Ytdopgooglicaiaa
open Go.RowKit
set_option maxRecDepth 100000
/-- a court of one claim, read: the claim's block -/
theorem CoX.one_ {w : World} {vt vc : Value} {c : CO} {x : CL} (h : CoX [] w (.agg (coC vt vc c).toArray) c) (hp : c.pre.length = 32) (hb : c.bank.length = 8) (hcl : c.claims = [x]) :
    ∃ bc oc cc vs, vc = .slice (some ⟨bc, oc, none⟩) 1 cc ∧ Sl w 37 (some ⟨bc, oc, none⟩) 1 (clF (vs, x)) ∧ SuX [] w vs x.suits := by
  obtain ⟨vt', vc', he, _, hc⟩ := h
  have hvc : vc = vc' := by
    have e1 := congrArg (fun v : Value => v.cells.toList[42]?) he
    have e2 : (coC vt vc c)[42]? = (coC vt' vc' c)[42]? := e1
    rw [co_claims hp hb, co_claims hp hb] at e2
    injection e2
  subst hvc
  obtain ⟨A, n, cc, l, rfl, sl, hml, hln, _, _, hsu⟩ := hc
  rw [hcl] at hml
  obtain ⟨vs, rfl⟩ : ∃ vs, l = [(vs, x)] := by
    match l, hml with
    | [p], h =>
      simp at h
      exact ⟨p.1, by rw [← h]⟩
  obtain rfl : n = 1 := by simpa using hln.symm
  obtain ⟨b, o, rfl, _⟩ := sl.some_ (by omega)
  rw [rows_one] at sl
  exact ⟨b, o, cc, vs, rfl, sl, hsu (vs, x) (by simp)⟩
theorem findS_none : ∀ (ss : List SU) (i k : Int), (∀ s ∈ ss, s.by_ ≠ i) → findS i ss k = -1
  | [], i, k, _ => rfl
  | s :: l, i, k, h => by
    rw [findS, if_neg (h s (by simp))]
    exact findS_none l i (k + 1) (fun y hy => h y (by simp [hy]))
theorem findS_last : ∀ (ss : List SU) (i k : Int) (s : SU), (∀ y ∈ ss, y.by_ ≠ i) → s.by_ = i → findS i (ss ++ [s]) k = k + ss.length
  | [], i, k, s, _, h => by simp [findS, h]
  | y :: l, i, k, s, h, hs => by
    rw [List.cons_append, findS, if_neg (h y (by simp)), findS_last l i (k + 1) s (fun z hz => h z (by simp [hz])) hs]
    simp only [List.length_cons]
    omega
/-- the court behind so many parties -/
structure SI (wt : Int) (j : Nat) (c : CO) (x : CL) : Prop where
  cl : c.claims = [x]
  ok : c.ok
  now : c.now = wt
  txs : c.txs.length = 5
  n : x.n = 4
  at_ : x.at_ = 0
  bk : ∀ b, b < 8 → 0 ≤ c.bank.getD b 0 ∧ c.bank.getD b 0 ≤ 1000000
  late : 3 < wt → x.st = 2 ∧ x.suits = []
  st : wt ≤ 3 → x.st = 1
  len : wt ≤ 3 → x.suits.length = j - 1
  by_ : wt ≤ 3 → ∀ s ∈ x.suits, 1 ≤ s.by_ ∧ s.by_ < (j : Int)
  b0 : wt ≤ 3 → c.bank.getD 0 0 = 50
  bj : wt ≤ 3 → ∀ b, 1 ≤ b → j ≤ b → b < 8 → c.bank.getD b 0 = 150
  sl : x.suits.length ≤ j
theorem SI.late_ {wt : Int} {j : Nat} {c : CO} {x : CL} (h : SI wt j c x) (hw : 3 < wt) (i : Nat) (hi : i < 8) : sueR c x i 0 = (c, 18) := by
  unfold sueR
  rw [if_neg (by omega), if_neg (by simp), if_pos (.inl (by rw [(h.late hw).1]; decide))]
theorem SI.skip {wt : Int} {j : Nat} {c : CO} {x : CL} (h : SI wt j c x) (hw : 3 < wt ∨ j = 0) : SI wt (j + 1) c x := by
  refine ⟨h.cl, h.ok, h.now, h.txs, h.n, h.at_, h.bk, h.late, h.st, fun h3 => ?_, fun h3 s hs => ?_, h.b0, fun h3 b h1 h2 => h.bj h3 b h1 (by omega), Nat.le_trans h.sl (by omega)⟩
  · have := h.len h3
    omega
  · have := h.by_ h3 s hs
    omega
theorem SI.low {wt : Int} {c : CO} {x : CL} (h : SI wt 0 c x) (h0 : 0 ≤ wt) (hw : wt ≤ 3) : sueR c x (0 : Int) 0 = (c, 13) := by
  have hs : x.suits = [] := List.length_eq_zero_iff.1 (h.len hw)
  unfold sueR
  rw [if_neg (by omega), if_neg (by simp), if_neg (by rw [h.st hw, h.at_, h.now]; omega), if_neg (by rw [hs]; decide), if_pos (by show c.bank.getD 0 0 < 100; rw [h.b0 hw]; decide)]
theorem SI.sue {wt : Int} {j : Nat} {c : CO} {x : CL} (h : SI wt j c x) (h0 : 0 ≤ wt) (hw : wt ≤ 3) (h1 : 1 ≤ j) (h8 : j < 8) : sueR c x (j : Int) 0 = (suedC c x j, 0) := by
  unfold sueR
  rw [if_neg (by omega), if_neg (by simp), if_neg (by rw [h.st hw, h.at_, h.now]; omega), if_neg (by rw [findS_none _ _ _ (fun s hs => by have := h.by_ hw s hs; omega)]; decide), if_neg (by rw [Int.toNat_natCast, h.bj hw j h1 (Nat.le_refl _) h8]; decide), Int.toNat_natCast]
theorem SI.next {wt : Int} {j : Nat} {c : CO} {x : CL} (h : SI wt j c x) (h0 : 0 ≤ wt) (hw : wt ≤ 3) (h1 : 1 ≤ j) (h8 : j < 8) : SI wt (j + 1) (suedC c x j) (suedX c x j) ∧ (suedC c x j).bank.getD j 0 = 50 ∧ sueR (suedC c x j) (suedX c x j) (j : Int) 0 = (suedC c x j, 7) := by
  have hb : ∀ b, b < 8 → (suedC c x j).bank.getD b 0 = if b = j then 50 else c.bank.getD b 0 := fun b hb => by
    show (c.bank.set j (c.bank.getD j 0 - 100)).getD b 0 = _
    rw [h.bj hw j h1 (Nat.le_refl _) h8, List.getD_eq_getElem?_getD, List.getElem?_set]
    by_cases e : b = j
    · subst e
      rw [if_pos rfl, if_pos (by rw [h.ok.bank]; exact hb), if_pos rfl]
      rfl
    · rw [if_neg (fun h => e h.symm), if_neg e, List.getD_eq_getElem?_getD]
  have hxo : x.ok := h.ok.claims x (by rw [h.cl]; simp)
  have hlen := h.len hw
  have hy : (suedX c x j).ok := ⟨hxo.root, fun s hs => by
    rcases List.mem_append.1 hs with h2 | h2
    · exact hxo.suits s h2
    · rw [List.mem_singleton.1 h2]
      exact ⟨⟨h.ok.pre, hxo.root, rfl⟩, fun y hy => h.ok.txs y (List.mem_of_mem_take hy), by show (c.txs.take _).length ≤ _; rw [List.length_take, h.txs]; omega⟩, by show (x.suits ++ [_]).length ≤ _; rw [List.length_append]; simp; omega⟩
  refine ⟨⟨rfl, ⟨h.ok.pre, h.ok.txs, h.ok.n, by show (c.bank.set _ _).length = 8; rw [List.length_set]; exact h.ok.bank, fun y hy' => by rw [List.mem_singleton.1 hy']; exact hy, by show [_].length ≤ 4096; simp⟩, h.now, h.txs, h.n, h.at_, fun b hb8 => ?_, fun h3 => by omega, fun _ => h.st hw, fun _ => ?_, fun _ s hs => ?_, fun _ => ?_, fun _ b hb1 hb2 hb8 => ?_, ?_⟩, ?_, ?_⟩
  · rw [hb b hb8]
    have := h.bk b hb8
    split <;> omega
  · show (x.suits ++ [_]).length = _
    rw [List.length_append]
    simp
    omega
  · rcases List.mem_append.1 hs with h2 | h2
    · have := h.by_ hw s h2
      omega
    · rw [List.mem_singleton.1 h2]
      show 1 ≤ (j : Int) ∧ (j : Int) < ((j + 1 : Nat) : Int)
      omega
  · rw [hb 0 (by decide), if_neg (by omega)]
    exact h.b0 hw
  · rw [hb b hb8, if_neg (by omega)]
    exact h.bj hw b hb1 (by omega) hb8
  · show (x.suits ++ [_]).length ≤ _
    rw [List.length_append]
    simp
    omega
  · rw [hb j h8, if_pos rfl]
  · unfold sueR
    rw [if_neg (by omega), if_neg (by simp), if_neg (by show ¬ (x.st ≠ 1 ∨ x.at_ + 3 < c.now); rw [h.st hw, h.at_, h.now]; omega), if_pos (by
      show 0 ≤ findS (j : Int) (x.suits ++ [_]) 0
      rw [findS_last x.suits (j : Int) 0 ⟨(j : Int), turnD (startD x.n c.pre x.root c.now), c.txs.take x.n.toNat⟩ (fun s hs => by have := h.by_ hw s hs; omega) rfl]
      omega)]
def suesX : CL := ⟨0, 4, 0, 1, one_ 9, []⟩
def suesS : CO := saidC (hallC 150 (hashL 5)) 0 4 (one_ 9)
theorem suesS_ok : suesS.ok := by
  have h := hallC_ok 150 (hashL 5) (hashL_all 5) (by rw [hashL_len]; decide)
  exact ⟨h.pre, h.txs, h.n, rfl, fun x hx => by
    rcases List.mem_append.1 hx with h' | h'
    · cases h'
    · rw [List.mem_singleton.1 h']
      exact ⟨rfl, (by intro s hs; cases hs), Nat.zero_le _⟩, by decide⟩
theorem sues_start (wt : Int) (h0 : 0 ≤ wt) : ∃ x, SI wt 0 (next0 suesS suesX 0 wt) x := by
  have hk := suesS_ok
  by_cases h : 3 < wt
  · refine ⟨{ suesX with st := 2 }, ?_⟩
    have e : next0 suesS suesX 0 wt = { suesS with now := suesS.now + wt, bank := suesS.bank.set 0 (suesS.bank.getD 0 0 + 100), claims := [{ suesX with st := 2 }] } := by
      unfold next0
      rw [if_pos ⟨rfl, by show 3 < 0 + wt - 0; omega⟩]
    rw [e]
    refine ⟨rfl, ⟨hk.pre, hk.txs, hk.n, rfl, fun y hy => by rw [List.mem_singleton.1 hy]; exact ⟨rfl, (by intro s hs; cases hs), Nat.zero_le _⟩, by show [_].length ≤ 4096; simp⟩, by show 0 + wt = wt; omega, hashL_len 5, rfl, rfl, ?_, fun _ => ⟨rfl, rfl⟩, fun h3 => by omega, fun h3 => by omega, fun h3 => by omega, fun h3 => by omega, fun h3 => by omega, Nat.zero_le _⟩
    show ∀ b, b < 8 → 0 ≤ (List.getD [150, 150, 150, 150, 150, 150, 150, 150] b 0 : Int) ∧ (List.getD [150, 150, 150, 150, 150, 150, 150, 150] b 0 : Int) ≤ 1000000
    decide
  · refine ⟨suesX, ?_⟩
    have e : next0 suesS suesX 0 wt = { suesS with now := suesS.now + wt, claims := [suesX] } := by
      unfold next0
      rw [if_neg (by show ¬ (_ ∧ 3 < 0 + wt - 0); omega)]
    rw [e]
    refine ⟨rfl, ⟨hk.pre, hk.txs, hk.n, rfl, fun y hy => by rw [List.mem_singleton.1 hy]; exact ⟨rfl, (by intro s hs; cases hs), Nat.zero_le _⟩, by show [_].length ≤ 4096; simp⟩, by show 0 + wt = wt; omega, hashL_len 5, rfl, rfl, ?_, fun h3 => absurd h3 h, fun _ => rfl, fun _ => rfl, fun _ s hs => (by cases hs), fun _ => rfl, ?_, Nat.zero_le _⟩
    · show ∀ b, b < 8 → 0 ≤ (List.getD [50, 150, 150, 150, 150, 150, 150, 150] b 0 : Int) ∧ (List.getD [50, 150, 150, 150, 150, 150, 150, 150] b 0 : Int) ≤ 1000000
      decide
    · show wt ≤ 3 → ∀ b, 1 ≤ b → 0 ≤ b → b < 8 → (List.getD [50, 150, 150, 150, 150, 150, 150, 150] b 0 : Int) = 150
      intro _ b h1 _ h2
      have : b = 1 ∨ b = 2 ∨ b = 3 ∨ b = 4 ∨ b = 5 ∨ b = 6 ∨ b = 7 := by omega
      rcases this with rfl | rfl | rfl | rfl | rfl | rfl | rfl <;> rfl
end Go.Proofs.Ytdopgooglicaiaa
/- The walk of court.moved, of a court of one claim: a middle is said, a side chosen. -/
set_option linter.unusedSimpArgs false
set_option linter.unusedVariables false
namespace Go.Proofs.Ytdopgooglicaiaa
open Go.RowKit
set_option maxRecDepth 100000
theorem sayD_ok {d : GD} (hd : GLen d) {mid : List UInt8} (hm : mid.length = 32) (now : Int) : GLen (sayD d mid now).1 := by
  unfold sayD
  split
  · exact ⟨hd.1, hd.2, hm⟩
  · exact hd
theorem chooseD_ok {d : GD} (hd : GLen d) (right : Bool) (now : Int) : GLen (chooseD d right now).1 := by
  unfold chooseD
  split
  · cases right
    · exact ⟨hd.1, hd.3, rfl⟩
    · exact ⟨hd.3, hd.2, rfl⟩
  · exact hd
/-- a court behind a move -/
def movedR (c : CO) (x : CL) (q : Nat) (s : SU) (r : GD × Int) : CO × Int := if r.2 = 0 then (layC c x q (layS s r.1 s.hs), 0) else (c, r.2)
/-- an own copy of a court of one claim that was sued, laid in a block behind it -/
theorem RCo.m {w w' : World} {c : CO} {en : Ending} {x : CL} (h : RCo w c en w') (hc : c.ok) (hx : c.claims = [x]) (hs : x.suits ≠ []) (hne : ∀ s ∈ x.suits, s.hs ≠ []) : ∃ T CB SB cC cS rest srest l, en = .returned (.agg (coC (.slice (some ⟨T, 0, none⟩) c.txs.length c.txs.length) (.slice (some ⟨CB, 0, none⟩) 1 cC) c).toArray) ∧ w.heap.size ≤ T ∧ w.heap.size ≤ CB ∧ w.heap.size ≤ SB ∧ SB < w'.heap.size ∧ Below w.heap.size w w' ∧
    ∀ (P : Nat) (w'' : World), w'.heap.size ≤ P → Below w'.heap.size w' w'' → Blk w'' P 30 (coC (.slice (some ⟨T, 0, none⟩) c.txs.length c.txs.length) (.slice (some ⟨CB, 0, none⟩) 1 cC) c) → OneM w'' P T CB SB cC cS rest srest l c x := by
  obtain ⟨T, vc1, rfl, hT, bT, hcl, hb1⟩ := h
  obtain ⟨A, nC, cC, l, rfl, ow, hml, hln, hsl⟩ := hcl
  rw [hx] at hml
  obtain ⟨vs, rfl⟩ : ∃ vs, l = [(vs, x)] := by
    match l, hml with
    | [p], h =>
      simp at h
      exact ⟨p.1, by rw [← h]⟩
  obtain rfl : nC = 1 := by simpa using hln.symm
  have hleC := ow.le
  obtain ⟨CB, rest, rfl, hCB, bk, hrl⟩ := own_row ow (by omega)
  rw [rows_one] at bk hrl
  have hxo : x.ok := hc.claims x (by rw [hx]; exact List.mem_singleton.2 rfl)
  rw [List.length_append, clF_len hxo.root] at hrl
  obtain ⟨As, n, cS, ls, hvs, os, hmls, hlns, hh⟩ := hsl (vs, x) (by simp)
  simp only [] at hvs
  subst hvs
  have hn : 0 < n := by
    rw [← hlns, ← List.length_map (f := (·.2)), hmls]
    exact List.length_pos_iff.2 hs
  have hle := os.le
  have hlen := os.len
  obtain ⟨SB, srest, rfl, hSB, bks, hrls⟩ := own_row os hn
  subst hlns
  simp only [bnd] at hSB
  have hTl := bT.lt
  have hCl := bk.lt
  have hSl := bks.lt
  refine ⟨T, CB, SB, cC, cS, rest, srest, ls, rfl, hT, by omega, by omega, hSl, hb1, fun P w'' hP hb bP => ⟨hx, hc, bP, bT.to hb, bk.to hb, bks.to hb, hrl, hleC.1, hleC.2, by rw [List.length_append, hlen] at hrls; exact hrls, hle.1, hle.2, hmls, fun p hp => ?_, by omega, by omega, by omega, by omega, by omega, by omega⟩⟩
  have hho := hh p hp
  obtain ⟨A, n', c', e, sl, h1, h2, h3⟩ := hho
  refine ⟨A, n', c', e, sl.to hb, h1, h2, fun b hb' hm => ?_⟩
  have h4 := h3 b hb'
  simp only [bnd] at h4
  have hn0 : 0 < n' := by
    rw [← h1]
    exact List.length_pos_iff.2 (hne p.2 (mem_snd hmls hp))
  obtain ⟨b5, o5, e5, hb5, _⟩ := sl.cells hn0
  have e6 : b5 = b := by
    rw [e5] at hb'
    injection hb'
  simp at hm
  omega
set_option maxRecDepth 100000 in
set_option maxHeartbeats 4000000 in
theorem moved_mid (v : Value) (c : CO) (hc : c.ok) (x : CL) (hcl : c.claims = [x]) (q : Nat) (s : SU) (hq : x.suits[q]? = some s) (hne : ∀ y ∈ x.suits, y.hs ≠ []) (hby : 0 ≤ x.by_ ∧ x.by_ < 8) (hsb : ∀ y ∈ x.suits, 0 ≤ y.by_ ∧ y.by_ < 8) (hbk : BkB 10000000 c.bank)
    (m1 : 0 ≤ s.g.moves) (m2 : s.g.moves ≤ 1099511627776) (mid : List UInt8) (hm : mid.length = 32) (b : Nat) (w : World) (bm : Blk w b 25 (B8 mid)) (h : CoX [] w v c) :
    Calls Try.prog 36 #[v, .int .i64 0, .int .i64 (q : Int), .func (.func 37) #[] #[.pointer (some ⟨b, 0, none⟩)]] w (RCe w (movedR c x q s (sayD s.g mid c.now)).1 (movedR c x q s (sayD s.g mid c.now)).2) := by
  have hX := h
  obtain ⟨vt, vc, rfl, hx⟩ := h
  obtain ⟨W, HW, hbw, bp, bz⟩ := box_co w vt vc c
  have hXW := hX.to hbw
  obtain ⟨bc, oc, cc, vs, rfl, slc, sux⟩ := hXW.one_ hc.pre hc.bank hcl
  have hxo : x.ok := hc.claims x (by rw [hcl]; simp)
  obtain ⟨As, ns, css, l, rfl, sls, hml, hln, _, _, hh⟩ := sux
  obtain ⟨u, hu⟩ := snd_get hml hq
  have hlt : q < l.length := (List.getElem?_eq_some_iff.1 hu).1
  obtain ⟨Ag, ng, cg, hue, slg, hng, hngc, _⟩ := hh (u, s) (List.mem_of_getElem? hu)
  simp only [] at hue
  subst hue
  have hsok : s.ok := hxo.suits s (List.mem_of_getElem? hq)
  have hgp : 0 < ng := by rw [← hng]; exact List.length_pos_iff.2 (hne s (List.mem_of_getElem? hq))
  have hgn : ng ≤ 4194304 := by rw [← hng]; exact hsok.n
  obtain ⟨b1, o1, rfl, hb1⟩ := sls.some_ (by omega)
  obtain ⟨_, _, e0, hbC⟩ := slc.some_ (by omega)
  obtain ⟨rfl, rfl⟩ : bc = _ ∧ oc = _ := by injection e0 with e0; injection e0 with e1 e2; exact ⟨e1, e2⟩
  have k42 : W.cell? ⟨w.heap.size, 42, none⟩ = some (.slice (some ⟨bc, oc, none⟩) 1 cc) := by rw [bp.cell]; exact co_claims hc.pre hc.bank
  have k0 : W.cell? ⟨w.heap.size, 0, none⟩ = some (.int .i64 c.now) := by rw [bp.cell]; exact co_now
  have k36 : W.cell? ⟨bc, oc + 36, none⟩ = some (.slice (some ⟨b1, o1, none⟩) ns css) := slc.cell (cl_suits hxo.root)
  have hr1 : ∀ a ∈ l, (suF a).length = 106 := fun a ha => suF_len (hxo.suits a.2 (mem_snd hml ha)).g
  have rg : W.rangeAt b1 (o1 + q * 106 + 1) (gcells (.slice Ag ng cg) s.g) := fun j v hv => by
    have hj : j < 105 := by have := (List.getElem?_eq_some_iff.1 hv).1; rw [gcells_len hsok.g] at this; exact this
    have h1 := rows_get l hr1 [] hu (j := j + 1) (by omega)
    rw [List.append_nil] at h1
    rw [show o1 + q * 106 + 1 + j = o1 + (q * 106 + (j + 1)) from by omega]
    refine sls.cell ?_
    rw [h1]
    exact hv
  obtain ⟨⟨g', er⟩, hr⟩ : ∃ r, (sayD s.g mid c.now) = r := ⟨_, rfl⟩
  rw [hr]
  have hgl : GLen g' := by
    have := sayD_ok hsok.g hm c.now
    rw [hr] at this
    exact this
  have HR := Lib.hid hr
  have HGL := Lib.hid hgl
  have HC := Lib.hid hc
  have HCL := Lib.hid hcl
  have HQ := Lib.hid hq
  have HNE := Lib.hid hne
  have HBY := Lib.hid hby
  have HSB := Lib.hid hsb
  have HBK := Lib.hid hbk
  have HSO := Lib.hid hsok
  have HNG := Lib.hid hng
  have HIG := Lib.hid (info_game (v := .slice Ag ng cg) hsok.g)
  have HIG2 := Lib.hid hgl
  have HXW := Lib.hid hXW
  have ICO := Lib.hid (info_co (vt := vt) (vc := .slice (some ⟨bc, oc, none⟩) 1 cc) hc.pre hc.bank)
  have hlP := bp.lt
  have hWz := bz.lt
  have t0 : (q : Int) < (ns : Int) := by omega
  have hnl : ns ≤ 4096 := by have := hxo.n; rw [← hml, List.length_map] at this; omega
  have HM := Lib.hid hm
  have bmW := bm.to hbw
  clear hm bm
  clear hc hcl hq hne hby hsb hbk hX hx hXW hxo hml hln hu hsok hng hngc hh hr1 sls slc hr hgl hlt
  go_enter Try.func36, Try.ntmps36
  go_upto_region 1 with fail
  refine wp_at HW.out ?_
  clear HW
  refine wp_region_P (.take 0 (.take 1 (.take 2 (.take 3 (.take 4 (.take 5 (.take 6 (.take 7 (.take 8 (.take 9 (.take 10 (.take 11 (.take 12 (.two 13 (.take 14 (.take 15 (.take 16 (.one 17 (.one 18 (.take 19 .done)))))) 17 (.one 13 (.take 14 (.take 15 (.take 16 (.one 18 (.take 19 .done)))))))))))))))))))) (Below W.heap.size) (by kernel_rfl) (by kernel_rfl) (by kernel_rfl) (by decide +kernel) (Below.refl _) (fun _ _ _ => Below.trans) (by intro d v c a w h; first | (cases d <;> exact h) | exact absurd h.1 (by simp)) ?_
  have bpd : Blk W.drew w.heap.size 30 (coC vt (.slice (some ⟨bc, oc, none⟩) 1 cc) c) := bp
  have bzd : Blk W.drew (w.heap.size + 1) 30 zeroCC := bz
  have d42 : W.drew.cell? ⟨w.heap.size, 42, none⟩ = some (.slice (some ⟨bc, oc, none⟩) 1 cc) := k42
  have d0 : W.drew.cell? ⟨w.heap.size, 0, none⟩ = some (.int .i64 c.now) := k0
  have d36 : W.drew.cell? ⟨bc, oc + 36, none⟩ = some (.slice (some ⟨b1, o1, none⟩) ns css) := k36
  have rgd : W.drew.rangeAt b1 (o1 + q * 106 + 1) (gcells (.slice Ag ng cg) s.g) := rg
  have HXD := Lib.hid HXW.out.drew
  have slgd := slg.drew
  have ffd := hbw.drew
  have hlPd : w.heap.size < W.drew.heap.size := hlP
  have hbCd : bc < W.drew.heap.size := hbC
  have hb1d : b1 < W.drew.heap.size := hb1
  have bmd : Blk W.drew b 25 (B8 mid) := bmW
  clear bmW
  clear bp bz k42 k0 k36 rg HXW slg hbw hlP hbC hb1
  have hsz : W.heap.size = W.drew.heap.size := rfl
  rw [hsz]
  clear hsz
  have hWd : w.heap.size + 1 < W.drew.heap.size := hWz
  generalize W.drew = U0 at *
  first | (refine wpP_quiet (v := ?_) rfl (by rfl) ?_ ?_; rotate_left; (· (intro w' hw'; go_simp; try with_reducible rfl)); simp only [Act.put, List.setIfInBounds_toArray, List.set_cons_zero, List.set_cons_succ]) | (refine wpP_skip rfl (by rfl) ?_; simp only [Act.put, List.setIfInBounds_toArray, List.set_cons_zero, List.set_cons_succ])
  first | (refine wpP_quiet (v := ?_) rfl (by rfl) ?_ ?_; rotate_left; (· (intro w' hw'; go_simp; try with_reducible rfl)); simp only [Act.put, List.setIfInBounds_toArray, List.set_cons_zero, List.set_cons_succ]) | (refine wpP_skip rfl (by rfl) ?_; simp only [Act.put, List.setIfInBounds_toArray, List.set_cons_zero, List.set_cons_succ])
  refine wpP_quiet (v := ?_) rfl (by rfl) ?_ ?_; rotate_left; (· (intro w' hw'; have q0 := (hw'.cell (p := ⟨w.heap.size, 42, none⟩) hlPd).trans d42; go_simp; try with_reducible rfl)); simp only [Act.put, List.setIfInBounds_toArray, List.set_cons_zero, List.set_cons_succ]
  first | (refine wpP_quiet (v := ?_) rfl (by rfl) ?_ ?_; rotate_left; (· (intro w' hw'; go_simp; try with_reducible rfl)); simp only [Act.put, List.setIfInBounds_toArray, List.set_cons_zero, List.set_cons_succ]) | (refine wpP_skip rfl (by rfl) ?_; simp only [Act.put, List.setIfInBounds_toArray, List.set_cons_zero, List.set_cons_succ])
  first | (refine wpP_quiet (v := ?_) rfl (by rfl) ?_ ?_; rotate_left; (· (intro w' hw'; go_simp; try with_reducible rfl)); simp only [Act.put, List.setIfInBounds_toArray, List.set_cons_zero, List.set_cons_succ]) | (refine wpP_skip rfl (by rfl) ?_; simp only [Act.put, List.setIfInBounds_toArray, List.set_cons_zero, List.set_cons_succ])
  first | (refine wpP_quiet (v := ?_) rfl (by rfl) ?_ ?_; rotate_left; (· (intro w' hw'; go_simp; try with_reducible rfl)); simp only [Act.put, List.setIfInBounds_toArray, List.set_cons_zero, List.set_cons_succ]) | (refine wpP_skip rfl (by rfl) ?_; simp only [Act.put, List.setIfInBounds_toArray, List.set_cons_zero, List.set_cons_succ])
  refine wpP_quiet (v := ?_) rfl (by rfl) ?_ ?_; rotate_left; (· (intro w' hw'; have q0 := (hw'.cell (p := ⟨bc, oc + 36, none⟩) hbCd).trans d36; go_simp; try with_reducible rfl)); simp only [Act.put, List.setIfInBounds_toArray, List.set_cons_zero, List.set_cons_succ]
  first | (refine wpP_quiet (v := ?_) rfl (by rfl) ?_ ?_; rotate_left; (· (intro w' hw'; go_simp; try with_reducible rfl)); simp only [Act.put, List.setIfInBounds_toArray, List.set_cons_zero, List.set_cons_succ]) | (refine wpP_skip rfl (by rfl) ?_; simp only [Act.put, List.setIfInBounds_toArray, List.set_cons_zero, List.set_cons_succ])
  first | (refine wpP_quiet (v := ?_) rfl (by rfl) ?_ ?_; rotate_left; (· (intro w' hw'; go_simp; try with_reducible rfl)); simp only [Act.put, List.setIfInBounds_toArray, List.set_cons_zero, List.set_cons_succ]) | (refine wpP_skip rfl (by rfl) ?_; simp only [Act.put, List.setIfInBounds_toArray, List.set_cons_zero, List.set_cons_succ])
  first | (refine wpP_quiet (v := ?_) rfl (by rfl) ?_ ?_; rotate_left; (· (intro w' hw'; go_simp; try with_reducible rfl)); simp only [Act.put, List.setIfInBounds_toArray, List.set_cons_zero, List.set_cons_succ]) | (refine wpP_skip rfl (by rfl) ?_; simp only [Act.put, List.setIfInBounds_toArray, List.set_cons_zero, List.set_cons_succ])
  refine wpP_load rfl (by rfl) _ _ rfl b1 (o1 + q * 106 + 1) rfl (gcells (.slice Ag ng cg) s.g) _ (fun w' hw' => range_keep rgd (hw'.block _ hb1d)) Try.underlying42 rfl HIG.out ?_; simp only [Act.put, List.setIfInBounds_toArray, List.set_cons_zero, List.set_cons_succ]
  first | (refine wpP_quiet (v := ?_) rfl (by rfl) ?_ ?_; rotate_left; (· (intro w' hw'; go_simp; try with_reducible rfl)); simp only [Act.put, List.setIfInBounds_toArray, List.set_cons_zero, List.set_cons_succ]) | (refine wpP_skip rfl (by rfl) ?_; simp only [Act.put, List.setIfInBounds_toArray, List.set_cons_zero, List.set_cons_succ])
  refine wpP_quiet (v := ?_) rfl (by rfl) ?_ ?_; rotate_left; (· (intro w' hw'; have q0 := (hw'.cell (p := ⟨w.heap.size, 0, none⟩) hlPd).trans d0; go_simp; try with_reducible rfl)); simp only [Act.put, List.setIfInBounds_toArray, List.set_cons_zero, List.set_cons_succ]
  refine wpP_two ?_ ?_
  · refine wpP_loud rfl (by rfl) ?_
    intro K hK
    go_simp
    refine (show Calls _ _ _ _ (RGe U0 s.hs ng (g', er)) from by rw [← HR.out]; exact middleFn_any Ag ng cg s.hs s.g HSO.out.g mid HM.out b c.now U0 slgd hgn bmd m1 m2).mono ?_
    rintro e V1 ⟨A1, c1, rfl, sl1, hc1, fr1, le1⟩
    dsimp only
    obtain ⟨g1, p1, rfl, hg1⟩ := sl1.some_ hgp
    refine hK.out _ _ hc1 ?_
    clear hK K
    try simp only [Act.put, List.setIfInBounds_toArray, List.set_cons_zero, List.set_cons_succ]
    have hfr : U0.heap.size ≤ g1 := fr1 g1 rfl
    have LE1 := Lib.hid le1
    clear le1
    first | (refine wpP_quiet (v := ?_) rfl (by rfl) ?_ ?_; rotate_left; (· (intro w' hw'; go_simp; try with_reducible rfl)); simp only [Act.put, List.setIfInBounds_toArray, List.set_cons_zero, List.set_cons_succ]) | (refine wpP_skip rfl (by rfl) ?_; simp only [Act.put, List.setIfInBounds_toArray, List.set_cons_zero, List.set_cons_succ])
    first | (refine wpP_quiet (v := ?_) rfl (by rfl) ?_ ?_; rotate_left; (· (intro w' hw'; go_simp; try with_reducible rfl)); simp only [Act.put, List.setIfInBounds_toArray, List.set_cons_zero, List.set_cons_succ]) | (refine wpP_skip rfl (by rfl) ?_; simp only [Act.put, List.setIfInBounds_toArray, List.set_cons_zero, List.set_cons_succ])
    first | (refine wpP_quiet (v := ?_) rfl (by rfl) ?_ ?_; rotate_left; (· (intro w' hw'; go_simp; try with_reducible rfl)); simp only [Act.put, List.setIfInBounds_toArray, List.set_cons_zero, List.set_cons_succ]) | (refine wpP_skip rfl (by rfl) ?_; simp only [Act.put, List.setIfInBounds_toArray, List.set_cons_zero, List.set_cons_succ])
    refine wpP_one ?_
    refine wpP_loud rfl (by rfl) ?_
    intro K hK
    go_simp
    refine hK.out _ _ ((Below.refl _ _).alloc (by exact hc1.size) _) ?_
    clear hK K
    try simp only [Act.put, List.setIfInBounds_toArray, List.set_cons_zero, List.set_cons_succ]
    have bG : Blk (V1.alloc (.cells Try.zeroCells42 42)) V1.heap.size 42 Try.zeroCells42.toList := Blk.new V1 _ _
    have f2 : Below U0.heap.size U0 (V1.alloc (.cells Try.zeroCells42 42)) := hc1.alloc (by exact hc1.size) _
    have hVG : U0.heap.size ≤ V1.heap.size := hc1.size
    replace sl1 := sl1.alloc (.cells Try.zeroCells42 42)
    clear hc1 fr1
    generalize V1.alloc (.cells Try.zeroCells42 42) = V2 at *
    generalize hG : V1.heap.size = G at *
    have hgG : g1 ≠ G := by omega
    refine wpP_one ?_
    refine wpP_loud rfl (by rfl) ?_
    intro K hK
    refine wp_store_fld _ _ _ rfl G 0 _ _ (gcells (.slice (some ⟨g1, p1, none⟩) ng c1) g') rfl _ rfl rfl bG (by rw [gcells_len HGL.out, zero_len]; omega) (info_game HGL.out) (gcells_one rfl) ?_
    intro V3 bG3 bu3
    rw [put_all _ _ (by rw [gcells_len HGL.out, zero_len])] at bG3
    refine hK.out _ _ (below_but bu3 hVG f2.size) ?_
    clear hK K
    try simp only [Act.put, List.setIfInBounds_toArray, List.set_cons_zero, List.set_cons_succ]
    first | (refine wpP_quiet (v := ?_) rfl (by rfl) ?_ ?_; rotate_left; (· (intro w' hw'; go_simp; try with_reducible rfl)); simp only [Act.put, List.setIfInBounds_toArray, List.set_cons_zero, List.set_cons_succ]) | (refine wpP_skip rfl (by rfl) ?_; simp only [Act.put, List.setIfInBounds_toArray, List.set_cons_zero, List.set_cons_succ])
    refine wpP_done ?_
    clear rgd d42 d0 d36 slgd hbCd hb1d bmd
    have f3 := f2.trans (below_but bu3 hVG f2.size)
    have slg3 := sl1.but2 bu3 (fun b hb e => by injection e with e; have hb' : g1 = b := (by injection hb); omega)
    have HX3 := Lib.hid (HXD.out.to f3)
    have bz3 := bzd.to f3
    have bp3 := bpd.to f3
    have ff3 := ffd.trans (f3.mono ffd.size)
    have hs3 := f3.size
    clear bu3 f3 sl1 f2 bzd bpd ffd bG HXD
    by_cases he : er = 0
    · subst he
      go_wp2_with (first
        | (refine wpl_load_fld (by rfl) _ _ rfl w.heap.size 0 rfl (coC vt (.slice (some ⟨bc, oc, none⟩) 1 cc) c) _ bp3.range Try.underlying30 rfl ICO.out ?_))
      refine (ownC_any _ c HC.out V3 HX3.out).mono ?_
      intro e w4 hro
      obtain ⟨T, CB, SB, cC, cS, rest, srest, lo, rfl, hT, hCB, hSB, hSl, hb4, hone⟩ := hro.m HC.out HCL.out (by intro h0; have := HQ.out; rw [h0] at this; cases this) HNE.out
      have HONE := Lib.hid hone
      have hg3 := bG3.lt
      obtain ⟨_, _, e0, hg13⟩ := slg3.some_ hgp
      obtain ⟨rfl, rfl⟩ : g1 = _ ∧ p1 = _ := by injection e0 with e0; injection e0 with e1 e2; exact ⟨e1, e2⟩
      have bG4 := bG3.to hb4
      have slg4 := slg3.to hb4
      have bz4 := bz3.to hb4
      have f4 := ff3.trans (hb4.mono ff3.size)
      have hs4 := hb4.size
      have hL4 : Hid ((coC (.slice (some ⟨T, 0, none⟩) c.txs.length c.txs.length) (.slice (some ⟨CB, 0, none⟩) 1 cC) c).length = 43) := Lib.hid (coC_len HC.out.pre HC.out.bank)
      have I4 := Lib.hid (info_co (vt := .slice (some ⟨T, 0, none⟩) c.txs.length c.txs.length) (vc := .slice (some ⟨CB, 0, none⟩) 1 cC) HC.out.pre HC.out.bank)
      have HIG3 := Lib.hid (info_game (v := (.slice (some ⟨g1, p1, none⟩) ng c1)) HGL.out)
      clear bG3 slg3 bz3 bp3 ff3 hro hone HX3 hb4
      go_wp2_with (first
        | (refine wpl_store_new rfl _ _ _ rfl 30 _ (coC (.slice (some ⟨T, 0, none⟩) c.txs.length c.txs.length) (.slice (some ⟨CB, 0, none⟩) 1 cC) c) rfl rfl (by rw [hL4.out]; rfl) I4.out (coC_one rfl rfl) ?_
           intro w5 bo hz5
           simp only [Act.put, List.setIfInBounds_toArray, List.set_cons_zero, List.set_cons_succ]
           have HO := Lib.hid (HONE.out w4.heap.size w5 (Nat.le_refl _) hz5 bo)
           have bG5 := bG4.to hz5
           have slg5 := slg4.to hz5
           have bz5 := bz4.to hz5
           have f5 := f4.trans (hz5.mono f4.size)
           have hs5 := hz5.size
           clear bG4 slg4 bz4 f4 hz5 bo HONE)
        | (refine wpl_load_fld (by rfl) _ _ rfl G 0 rfl (gcells (.slice (some ⟨g1, p1, none⟩) ng c1) g') _ bG5.range Try.underlying42 rfl HIG3.out ?_))
      obtain ⟨us, hus⟩ := snd_get HO.out.ml HQ.out
      have hlay := lay_any HO.out q us s hus (.slice (some ⟨g1, p1, none⟩) ng c1) g' s.hs ⟨HGL.out, HSO.out.hs, HSO.out.n⟩ ⟨_, _, _, rfl, slg5, HNG.out, LE1.out, fun b hb hm => by
        have hb' : g1 = b := (by injection hb)
        simp at hm
        omega⟩ HBY.out HSB.out HBK.out
      refine hlay.mono ?_
      rintro e w8 ⟨rfl, fr8, h8⟩
      have HO8 := Lib.hid h8
      have bz8 := fr8.blk bz5 (by simp; omega)
      have f8 := f5.trans (fr8.below (D := w.heap.size) (fun b hb => by simp at hb; omega) f5.size)
      clear hlay hus slg5 bG5 bz5 f5 fr8 h8
      have e9 : movedR c x q s (g', 0) = (layC c x q (layS s g' s.hs), 0) := by unfold movedR; rw [if_pos rfl]
      obtain ⟨c9, hc9⟩ : ∃ c9, layC c x q (layS s g' s.hs) = c9 := ⟨_, rfl⟩
      rw [hc9] at HO8 e9
      have HE9 := Lib.hid e9
      have hP9 : c9.pre.length = 32 ∧ c9.bank.length = 8 := ⟨HO8.out.ok.pre, HO8.out.ok.bank⟩
      have HP9 := Lib.hid hP9
      have I9 := Lib.hid HO8.out.info
      clear e9 hc9 hP9
      go_wp2_with (first
        | (refine wpl_load_fld (by rfl) _ _ rfl w4.heap.size 0 rfl _ _ HO8.out.bp.range Try.underlying30 rfl I9.out ?_))
      refine (ownC_any _ _ HO8.out.ok w8 HO8.out.cox).mono ?_
      intro e w6 hro
      obtain ⟨vt6, vc6, rfl, o6t, o6c, hb6, hfin⟩ := hro.xt HO8.out.ok
      have hz9 := bz8.lt
      have bz6 := bz8.to hb6
      have f6 := f8.trans (hb6.mono f8.size)
      have IC6 := Lib.hid (info_co (vt := vt6) (vc := vc6) (c := c9) HP9.out.1 HP9.out.2)
      have HL6 : Hid ((coC vt6 vc6 c9).length = 43) := Lib.hid (coC_len (c := c9) HP9.out.1 HP9.out.2)
      have hf9 := f8.size
      clear hro bz8 f8
      go_wp2_with (first
        | (refine wpl_store_fld (by rfl) _ _ _ rfl (w.heap.size + 1) 0 _ _ (coC vt6 vc6 c9) rfl _ rfl rfl bz6 (by rw [HL6.out]; exact Nat.le_refl _) IC6.out (coC_one o6t o6c) ?_
           intro w7 bz7 bu7
           rw [put_all _ _ (by rw [HL6.out]; rfl)] at bz7))
      refine bodyPost_ret (results_blk2 Try.results36 rfl rfl bz7 Try.underlying30 rfl IC6.out) rfl ?_
      rw [HE9.out]
      refine ⟨_, rfl, ?_, f6.trans (below_but bu7 (by omega) f6.size)⟩
      exact fun S hS => hfin (w.heap.size + 1) w7 hz9 bu7 S (fun b hb => by have := hS b hb; omega)
    · have t1 : (er == 0) = false := by simpa using he
      have t2 : (er != 0) = true := by simpa using he
      have HE := Lib.hid he
      clear slg3 bG3
      go_wp2_with (first
        | (refine wpl_load_fld (by rfl) _ _ rfl w.heap.size 0 rfl (coC vt (.slice (some ⟨bc, oc, none⟩) 1 cc) c) _ bp3.range Try.underlying30 rfl ICO.out ?_))
      refine (ownC_any _ _ HC.out V3 HX3.out).mono ?_
      intro e w6 hro
      obtain ⟨vt6, vc6, rfl, o6t, o6c, hb6, hfin⟩ := hro.xt HC.out
      have hz9 := bz3.lt
      have bz6 := bz3.to hb6
      have f6 := ff3.trans (hb6.mono ff3.size)
      have IC6 := Lib.hid (info_co (vt := vt6) (vc := vc6) (c := c) HC.out.pre HC.out.bank)
      have HL6 : Hid ((coC vt6 vc6 c).length = 43) := Lib.hid (coC_len (c := c) HC.out.pre HC.out.bank)
      have hf9 := ff3.size
      clear hro bz3 ff3
      go_wp2_with (first
        | (refine wpl_store_fld (by rfl) _ _ _ rfl (w.heap.size + 1) 0 _ _ (coC vt6 vc6 c) rfl _ rfl rfl bz6 (by rw [HL6.out]; exact Nat.le_refl _) IC6.out (coC_one o6t o6c) ?_
           intro w7 bz7 bu7
           rw [put_all _ _ (by rw [HL6.out]; rfl)] at bz7))
      refine bodyPost_ret (results_blk2 Try.results36 rfl rfl bz7 Try.underlying30 rfl IC6.out) rfl ?_
      rw [show movedR c x q s (g', er) = (c, er) from by unfold movedR; rw [if_neg HE.out]]
      refine ⟨_, rfl, ?_, f6.trans (below_but bu7 (by omega) f6.size)⟩
      exact fun S hS => hfin (w.heap.size + 1) w7 hz9 bu7 S (fun b hb => by have := hS b hb; omega)
  · refine wpP_loud rfl (by rfl) ?_
    intro K hK
    go_simp
    refine hK.out _ _ ((Below.refl _ _).alloc (Nat.le_refl _) _) ?_
    clear hK K
    try simp only [Act.put, List.setIfInBounds_toArray, List.set_cons_zero, List.set_cons_succ]
    have bG : Blk (U0.alloc (.cells Try.zeroCells42 42)) U0.heap.size 42 Try.zeroCells42.toList := Blk.new U0 _ _
    have f2 : Below U0.heap.size U0 (U0.alloc (.cells Try.zeroCells42 42)) := (Below.refl _ _).alloc (Nat.le_refl _) _
    generalize U0.alloc (.cells Try.zeroCells42 42) = V2 at *
    obtain ⟨G, hG⟩ : ∃ G, U0.heap.size = G := ⟨_, rfl⟩
    rw [show Blk V2 U0.heap.size 42 Try.zeroCells42.toList = Blk V2 G 42 Try.zeroCells42.toList from by rw [hG]] at bG
    have hVG : U0.heap.size ≤ G := by omega
    have hGl := bG.lt
    refine wpP_one ?_
    refine wpP_loud rfl (by rfl) ?_
    intro K hK
    go_simp
    refine (show Calls _ _ _ _ (RGe V2 s.hs ng (g', er)) from by rw [← HR.out]; exact middleFn_any Ag ng cg s.hs s.g HSO.out.g mid HM.out b c.now V2 (slgd.to f2) hgn (bmd.to f2) m1 m2).mono ?_
    rintro e V1 ⟨A1, c1, rfl, sl1, hc1, fr1, le1⟩
    dsimp only
    obtain ⟨g1, p1, rfl, hg1⟩ := sl1.some_ hgp
    refine hK.out _ _ (hc1.mono f2.size) ?_
    clear hK K
    try simp only [Act.put, List.setIfInBounds_toArray, List.set_cons_zero, List.set_cons_succ]
    have hg2 : V2.heap.size ≤ g1 := fr1 g1 rfl
    have hfr : U0.heap.size ≤ g1 := Nat.le_trans f2.size hg2
    replace bG := bG.to hc1
    replace f2 := f2.trans (hc1.mono f2.size)
    have LE1 := Lib.hid le1
    have hgG : g1 ≠ G := by omega
    clear hc1 fr1 le1
    first | (refine wpP_quiet (v := ?_) rfl (by rfl) ?_ ?_; rotate_left; (· (intro w' hw'; go_simp; try with_reducible rfl)); simp only [Act.put, List.setIfInBounds_toArray, List.set_cons_zero, List.set_cons_succ]) | (refine wpP_skip rfl (by rfl) ?_; simp only [Act.put, List.setIfInBounds_toArray, List.set_cons_zero, List.set_cons_succ])
    first | (refine wpP_quiet (v := ?_) rfl (by rfl) ?_ ?_; rotate_left; (· (intro w' hw'; go_simp; try with_reducible rfl)); simp only [Act.put, List.setIfInBounds_toArray, List.set_cons_zero, List.set_cons_succ]) | (refine wpP_skip rfl (by rfl) ?_; simp only [Act.put, List.setIfInBounds_toArray, List.set_cons_zero, List.set_cons_succ])
    first | (refine wpP_quiet (v := ?_) rfl (by rfl) ?_ ?_; rotate_left; (· (intro w' hw'; go_simp; try with_reducible rfl)); simp only [Act.put, List.setIfInBounds_toArray, List.set_cons_zero, List.set_cons_succ]) | (refine wpP_skip rfl (by rfl) ?_; simp only [Act.put, List.setIfInBounds_toArray, List.set_cons_zero, List.set_cons_succ])
    refine wpP_one ?_
    refine wpP_loud rfl (by rfl) ?_
    intro K hK
    refine wp_store_fld _ _ _ rfl G 0 _ _ (gcells (.slice (some ⟨g1, p1, none⟩) ng c1) g') rfl _ rfl rfl bG (by rw [gcells_len HGL.out, zero_len]; omega) (info_game HGL.out) (gcells_one rfl) ?_
    intro V3 bG3 bu3
    rw [put_all _ _ (by rw [gcells_len HGL.out, zero_len])] at bG3
    refine hK.out _ _ (below_but bu3 hVG f2.size) ?_
    clear hK K
    try simp only [Act.put, List.setIfInBounds_toArray, List.set_cons_zero, List.set_cons_succ]
    first | (refine wpP_quiet (v := ?_) rfl (by rfl) ?_ ?_; rotate_left; (· (intro w' hw'; go_simp; try with_reducible rfl)); simp only [Act.put, List.setIfInBounds_toArray, List.set_cons_zero, List.set_cons_succ]) | (refine wpP_skip rfl (by rfl) ?_; simp only [Act.put, List.setIfInBounds_toArray, List.set_cons_zero, List.set_cons_succ])
    refine wpP_done ?_
    clear rgd d42 d0 d36 slgd hbCd hb1d bmd
    have f3 := f2.trans (below_but bu3 hVG f2.size)
    have slg3 := sl1.but2 bu3 (fun b hb e => by injection e with e; have hb' : g1 = b := (by injection hb); omega)
    have HX3 := Lib.hid (HXD.out.to f3)
    have bz3 := bzd.to f3
    have bp3 := bpd.to f3
    have ff3 := ffd.trans (f3.mono ffd.size)
    have hs3 := f3.size
    clear bu3 f3 sl1 f2 bzd bpd ffd bG HXD
    by_cases he : er = 0
    · subst he
      go_wp2_with (first
        | (refine wpl_load_fld (by rfl) _ _ rfl w.heap.size 0 rfl (coC vt (.slice (some ⟨bc, oc, none⟩) 1 cc) c) _ bp3.range Try.underlying30 rfl ICO.out ?_))
      refine (ownC_any _ c HC.out V3 HX3.out).mono ?_
      intro e w4 hro
      obtain ⟨T, CB, SB, cC, cS, rest, srest, lo, rfl, hT, hCB, hSB, hSl, hb4, hone⟩ := hro.m HC.out HCL.out (by intro h0; have := HQ.out; rw [h0] at this; cases this) HNE.out
      have HONE := Lib.hid hone
      have hg3 := bG3.lt
      obtain ⟨_, _, e0, hg13⟩ := slg3.some_ hgp
      obtain ⟨rfl, rfl⟩ : g1 = _ ∧ p1 = _ := by injection e0 with e0; injection e0 with e1 e2; exact ⟨e1, e2⟩
      have bG4 := bG3.to hb4
      have slg4 := slg3.to hb4
      have bz4 := bz3.to hb4
      have f4 := ff3.trans (hb4.mono ff3.size)
      have hs4 := hb4.size
      have hL4 : Hid ((coC (.slice (some ⟨T, 0, none⟩) c.txs.length c.txs.length) (.slice (some ⟨CB, 0, none⟩) 1 cC) c).length = 43) := Lib.hid (coC_len HC.out.pre HC.out.bank)
      have I4 := Lib.hid (info_co (vt := .slice (some ⟨T, 0, none⟩) c.txs.length c.txs.length) (vc := .slice (some ⟨CB, 0, none⟩) 1 cC) HC.out.pre HC.out.bank)
      have HIG3 := Lib.hid (info_game (v := (.slice (some ⟨g1, p1, none⟩) ng c1)) HGL.out)
      clear bG3 slg3 bz3 bp3 ff3 hro hone HX3 hb4
      go_wp2_with (first
        | (refine wpl_store_new rfl _ _ _ rfl 30 _ (coC (.slice (some ⟨T, 0, none⟩) c.txs.length c.txs.length) (.slice (some ⟨CB, 0, none⟩) 1 cC) c) rfl rfl (by rw [hL4.out]; rfl) I4.out (coC_one rfl rfl) ?_
           intro w5 bo hz5
           simp only [Act.put, List.setIfInBounds_toArray, List.set_cons_zero, List.set_cons_succ]
           have HO := Lib.hid (HONE.out w4.heap.size w5 (Nat.le_refl _) hz5 bo)
           have bG5 := bG4.to hz5
           have slg5 := slg4.to hz5
           have bz5 := bz4.to hz5
           have f5 := f4.trans (hz5.mono f4.size)
           have hs5 := hz5.size
           clear bG4 slg4 bz4 f4 hz5 bo HONE)
        | (refine wpl_load_fld (by rfl) _ _ rfl G 0 rfl (gcells (.slice (some ⟨g1, p1, none⟩) ng c1) g') _ bG5.range Try.underlying42 rfl HIG3.out ?_))
      obtain ⟨us, hus⟩ := snd_get HO.out.ml HQ.out
      have hlay := lay_any HO.out q us s hus (.slice (some ⟨g1, p1, none⟩) ng c1) g' s.hs ⟨HGL.out, HSO.out.hs, HSO.out.n⟩ ⟨_, _, _, rfl, slg5, HNG.out, LE1.out, fun b hb hm => by
        have hb' : g1 = b := (by injection hb)
        simp at hm
        omega⟩ HBY.out HSB.out HBK.out
      refine hlay.mono ?_
      rintro e w8 ⟨rfl, fr8, h8⟩
      have HO8 := Lib.hid h8
      have bz8 := fr8.blk bz5 (by simp; omega)
      have f8 := f5.trans (fr8.below (D := w.heap.size) (fun b hb => by simp at hb; omega) f5.size)
      clear hlay hus slg5 bG5 bz5 f5 fr8 h8
      have e9 : movedR c x q s (g', 0) = (layC c x q (layS s g' s.hs), 0) := by unfold movedR; rw [if_pos rfl]
      obtain ⟨c9, hc9⟩ : ∃ c9, layC c x q (layS s g' s.hs) = c9 := ⟨_, rfl⟩
      rw [hc9] at HO8 e9
      have HE9 := Lib.hid e9
      have hP9 : c9.pre.length = 32 ∧ c9.bank.length = 8 := ⟨HO8.out.ok.pre, HO8.out.ok.bank⟩
      have HP9 := Lib.hid hP9
      have I9 := Lib.hid HO8.out.info
      clear e9 hc9 hP9
      go_wp2_with (first
        | (refine wpl_load_fld (by rfl) _ _ rfl w4.heap.size 0 rfl _ _ HO8.out.bp.range Try.underlying30 rfl I9.out ?_))
      refine (ownC_any _ _ HO8.out.ok w8 HO8.out.cox).mono ?_
      intro e w6 hro
      obtain ⟨vt6, vc6, rfl, o6t, o6c, hb6, hfin⟩ := hro.xt HO8.out.ok
      have hz9 := bz8.lt
      have bz6 := bz8.to hb6
      have f6 := f8.trans (hb6.mono f8.size)
      have IC6 := Lib.hid (info_co (vt := vt6) (vc := vc6) (c := c9) HP9.out.1 HP9.out.2)
      have HL6 : Hid ((coC vt6 vc6 c9).length = 43) := Lib.hid (coC_len (c := c9) HP9.out.1 HP9.out.2)
      have hf9 := f8.size
      clear hro bz8 f8
      go_wp2_with (first
        | (refine wpl_store_fld (by rfl) _ _ _ rfl (w.heap.size + 1) 0 _ _ (coC vt6 vc6 c9) rfl _ rfl rfl bz6 (by rw [HL6.out]; exact Nat.le_refl _) IC6.out (coC_one o6t o6c) ?_
           intro w7 bz7 bu7
           rw [put_all _ _ (by rw [HL6.out]; rfl)] at bz7))
      refine bodyPost_ret (results_blk2 Try.results36 rfl rfl bz7 Try.underlying30 rfl IC6.out) rfl ?_
      rw [HE9.out]
      refine ⟨_, rfl, ?_, f6.trans (below_but bu7 (by omega) f6.size)⟩
      exact fun S hS => hfin (w.heap.size + 1) w7 hz9 bu7 S (fun b hb => by have := hS b hb; omega)
    · have t1 : (er == 0) = false := by simpa using he
      have t2 : (er != 0) = true := by simpa using he
      have HE := Lib.hid he
      clear slg3 bG3
      go_wp2_with (first
        | (refine wpl_load_fld (by rfl) _ _ rfl w.heap.size 0 rfl (coC vt (.slice (some ⟨bc, oc, none⟩) 1 cc) c) _ bp3.range Try.underlying30 rfl ICO.out ?_))
      refine (ownC_any _ _ HC.out V3 HX3.out).mono ?_
      intro e w6 hro
      obtain ⟨vt6, vc6, rfl, o6t, o6c, hb6, hfin⟩ := hro.xt HC.out
      have hz9 := bz3.lt
      have bz6 := bz3.to hb6
      have f6 := ff3.trans (hb6.mono ff3.size)
      have IC6 := Lib.hid (info_co (vt := vt6) (vc := vc6) (c := c) HC.out.pre HC.out.bank)
      have HL6 : Hid ((coC vt6 vc6 c).length = 43) := Lib.hid (coC_len (c := c) HC.out.pre HC.out.bank)
      have hf9 := ff3.size
      clear hro bz3 ff3
      go_wp2_with (first
        | (refine wpl_store_fld (by rfl) _ _ _ rfl (w.heap.size + 1) 0 _ _ (coC vt6 vc6 c) rfl _ rfl rfl bz6 (by rw [HL6.out]; exact Nat.le_refl _) IC6.out (coC_one o6t o6c) ?_
           intro w7 bz7 bu7
           rw [put_all _ _ (by rw [HL6.out]; rfl)] at bz7))
      refine bodyPost_ret (results_blk2 Try.results36 rfl rfl bz7 Try.underlying30 rfl IC6.out) rfl ?_
      rw [show movedR c x q s (g', er) = (c, er) from by unfold movedR; rw [if_neg HE.out]]
      refine ⟨_, rfl, ?_, f6.trans (below_but bu7 (by omega) f6.size)⟩
      exact fun S hS => hfin (w.heap.size + 1) w7 hz9 bu7 S (fun b hb => by have := hS b hb; omega)
set_option maxRecDepth 100000 in
set_option maxHeartbeats 4000000 in
theorem moved_side (v : Value) (c : CO) (hc : c.ok) (x : CL) (hcl : c.claims = [x]) (q : Nat) (s : SU) (hq : x.suits[q]? = some s) (hne : ∀ y ∈ x.suits, y.hs ≠ []) (hby : 0 ≤ x.by_ ∧ x.by_ < 8) (hsb : ∀ y ∈ x.suits, 0 ≤ y.by_ ∧ y.by_ < 8) (hbk : BkB 10000000 c.bank)
    (m1 : 0 ≤ s.g.moves) (m2 : s.g.moves ≤ 1099511627776) (l1 : 0 ≤ s.g.lo) (l2 : s.g.lo ≤ s.g.hi) (l3 : s.g.hi ≤ 1099511627776) (right : Bool) (b : Nat) (w : World) (bm : Blk w b 4 [.bool right]) (h : CoX [] w v c) :
    Calls Try.prog 36 #[v, .int .i64 0, .int .i64 (q : Int), .func (.func 45) #[] #[.pointer (some ⟨b, 0, none⟩)]] w (RCe w (movedR c x q s (chooseD s.g right c.now)).1 (movedR c x q s (chooseD s.g right c.now)).2) := by
  have hX := h
  obtain ⟨vt, vc, rfl, hx⟩ := h
  obtain ⟨W, HW, hbw, bp, bz⟩ := box_co w vt vc c
  have hXW := hX.to hbw
  obtain ⟨bc, oc, cc, vs, rfl, slc, sux⟩ := hXW.one_ hc.pre hc.bank hcl
  have hxo : x.ok := hc.claims x (by rw [hcl]; simp)
  obtain ⟨As, ns, css, l, rfl, sls, hml, hln, _, _, hh⟩ := sux
  obtain ⟨u, hu⟩ := snd_get hml hq
  have hlt : q < l.length := (List.getElem?_eq_some_iff.1 hu).1
  obtain ⟨Ag, ng, cg, hue, slg, hng, hngc, _⟩ := hh (u, s) (List.mem_of_getElem? hu)
  simp only [] at hue
  subst hue
  have hsok : s.ok := hxo.suits s (List.mem_of_getElem? hq)
  have hgp : 0 < ng := by rw [← hng]; exact List.length_pos_iff.2 (hne s (List.mem_of_getElem? hq))
  have hgn : ng ≤ 4194304 := by rw [← hng]; exact hsok.n
  obtain ⟨b1, o1, rfl, hb1⟩ := sls.some_ (by omega)
  obtain ⟨_, _, e0, hbC⟩ := slc.some_ (by omega)
  obtain ⟨rfl, rfl⟩ : bc = _ ∧ oc = _ := by injection e0 with e0; injection e0 with e1 e2; exact ⟨e1, e2⟩
  have k42 : W.cell? ⟨w.heap.size, 42, none⟩ = some (.slice (some ⟨bc, oc, none⟩) 1 cc) := by rw [bp.cell]; exact co_claims hc.pre hc.bank
  have k0 : W.cell? ⟨w.heap.size, 0, none⟩ = some (.int .i64 c.now) := by rw [bp.cell]; exact co_now
  have k36 : W.cell? ⟨bc, oc + 36, none⟩ = some (.slice (some ⟨b1, o1, none⟩) ns css) := slc.cell (cl_suits hxo.root)
  have hr1 : ∀ a ∈ l, (suF a).length = 106 := fun a ha => suF_len (hxo.suits a.2 (mem_snd hml ha)).g
  have rg : W.rangeAt b1 (o1 + q * 106 + 1) (gcells (.slice Ag ng cg) s.g) := fun j v hv => by
    have hj : j < 105 := by have := (List.getElem?_eq_some_iff.1 hv).1; rw [gcells_len hsok.g] at this; exact this
    have h1 := rows_get l hr1 [] hu (j := j + 1) (by omega)
    rw [List.append_nil] at h1
    rw [show o1 + q * 106 + 1 + j = o1 + (q * 106 + (j + 1)) from by omega]
    refine sls.cell ?_
    rw [h1]
    exact hv
  obtain ⟨⟨g', er⟩, hr⟩ : ∃ r, (chooseD s.g right c.now) = r := ⟨_, rfl⟩
  rw [hr]
  have hgl : GLen g' := by
    have := chooseD_ok hsok.g right c.now
    rw [hr] at this
    exact this
  have HR := Lib.hid hr
  have HGL := Lib.hid hgl
  have HC := Lib.hid hc
  have HCL := Lib.hid hcl
  have HQ := Lib.hid hq
  have HNE := Lib.hid hne
  have HBY := Lib.hid hby
  have HSB := Lib.hid hsb
  have HBK := Lib.hid hbk
  have HSO := Lib.hid hsok
  have HNG := Lib.hid hng
  have HIG := Lib.hid (info_game (v := .slice Ag ng cg) hsok.g)
  have HIG2 := Lib.hid hgl
  have HXW := Lib.hid hXW
  have ICO := Lib.hid (info_co (vt := vt) (vc := .slice (some ⟨bc, oc, none⟩) 1 cc) hc.pre hc.bank)
  have hlP := bp.lt
  have hWz := bz.lt
  have t0 : (q : Int) < (ns : Int) := by omega
  have hnl : ns ≤ 4096 := by have := hxo.n; rw [← hml, List.length_map] at this; omega
  have bmW := bm.to hbw
  clear bm
  clear hc hcl hq hne hby hsb hbk hX hx hXW hxo hml hln hu hsok hng hngc hh hr1 sls slc hr hgl hlt
  go_enter Try.func36, Try.ntmps36
  go_upto_region 1 with fail
  refine wp_at HW.out ?_
  clear HW
  refine wp_region_P (.take 0 (.take 1 (.take 2 (.take 3 (.take 4 (.take 5 (.take 6 (.take 7 (.take 8 (.take 9 (.take 10 (.take 11 (.take 12 (.two 13 (.take 14 (.take 15 (.take 16 (.one 17 (.one 18 (.take 19 .done)))))) 17 (.one 13 (.take 14 (.take 15 (.take 16 (.one 18 (.take 19 .done)))))))))))))))))))) (Below W.heap.size) (by kernel_rfl) (by kernel_rfl) (by kernel_rfl) (by decide +kernel) (Below.refl _) (fun _ _ _ => Below.trans) (by intro d v c a w h; first | (cases d <;> exact h) | exact absurd h.1 (by simp)) ?_
  have bpd : Blk W.drew w.heap.size 30 (coC vt (.slice (some ⟨bc, oc, none⟩) 1 cc) c) := bp
  have bzd : Blk W.drew (w.heap.size + 1) 30 zeroCC := bz
  have d42 : W.drew.cell? ⟨w.heap.size, 42, none⟩ = some (.slice (some ⟨bc, oc, none⟩) 1 cc) := k42
  have d0 : W.drew.cell? ⟨w.heap.size, 0, none⟩ = some (.int .i64 c.now) := k0
  have d36 : W.drew.cell? ⟨bc, oc + 36, none⟩ = some (.slice (some ⟨b1, o1, none⟩) ns css) := k36
  have rgd : W.drew.rangeAt b1 (o1 + q * 106 + 1) (gcells (.slice Ag ng cg) s.g) := rg
  have HXD := Lib.hid HXW.out.drew
  have slgd := slg.drew
  have ffd := hbw.drew
  have hlPd : w.heap.size < W.drew.heap.size := hlP
  have hbCd : bc < W.drew.heap.size := hbC
  have hb1d : b1 < W.drew.heap.size := hb1
  have bmd : Blk W.drew b 4 [.bool right] := bmW
  clear bmW
  clear bp bz k42 k0 k36 rg HXW slg hbw hlP hbC hb1
  have hsz : W.heap.size = W.drew.heap.size := rfl
  rw [hsz]
  clear hsz
  have hWd : w.heap.size + 1 < W.drew.heap.size := hWz
  generalize W.drew = U0 at *
  first | (refine wpP_quiet (v := ?_) rfl (by rfl) ?_ ?_; rotate_left; (· (intro w' hw'; go_simp; try with_reducible rfl)); simp only [Act.put, List.setIfInBounds_toArray, List.set_cons_zero, List.set_cons_succ]) | (refine wpP_skip rfl (by rfl) ?_; simp only [Act.put, List.setIfInBounds_toArray, List.set_cons_zero, List.set_cons_succ])
  first | (refine wpP_quiet (v := ?_) rfl (by rfl) ?_ ?_; rotate_left; (· (intro w' hw'; go_simp; try with_reducible rfl)); simp only [Act.put, List.setIfInBounds_toArray, List.set_cons_zero, List.set_cons_succ]) | (refine wpP_skip rfl (by rfl) ?_; simp only [Act.put, List.setIfInBounds_toArray, List.set_cons_zero, List.set_cons_succ])
  refine wpP_quiet (v := ?_) rfl (by rfl) ?_ ?_; rotate_left; (· (intro w' hw'; have q0 := (hw'.cell (p := ⟨w.heap.size, 42, none⟩) hlPd).trans d42; go_simp; try with_reducible rfl)); simp only [Act.put, List.setIfInBounds_toArray, List.set_cons_zero, List.set_cons_succ]
  first | (refine wpP_quiet (v := ?_) rfl (by rfl) ?_ ?_; rotate_left; (· (intro w' hw'; go_simp; try with_reducible rfl)); simp only [Act.put, List.setIfInBounds_toArray, List.set_cons_zero, List.set_cons_succ]) | (refine wpP_skip rfl (by rfl) ?_; simp only [Act.put, List.setIfInBounds_toArray, List.set_cons_zero, List.set_cons_succ])
  first | (refine wpP_quiet (v := ?_) rfl (by rfl) ?_ ?_; rotate_left; (· (intro w' hw'; go_simp; try with_reducible rfl)); simp only [Act.put, List.setIfInBounds_toArray, List.set_cons_zero, List.set_cons_succ]) | (refine wpP_skip rfl (by rfl) ?_; simp only [Act.put, List.setIfInBounds_toArray, List.set_cons_zero, List.set_cons_succ])
  first | (refine wpP_quiet (v := ?_) rfl (by rfl) ?_ ?_; rotate_left; (· (intro w' hw'; go_simp; try with_reducible rfl)); simp only [Act.put, List.setIfInBounds_toArray, List.set_cons_zero, List.set_cons_succ]) | (refine wpP_skip rfl (by rfl) ?_; simp only [Act.put, List.setIfInBounds_toArray, List.set_cons_zero, List.set_cons_succ])
  refine wpP_quiet (v := ?_) rfl (by rfl) ?_ ?_; rotate_left; (· (intro w' hw'; have q0 := (hw'.cell (p := ⟨bc, oc + 36, none⟩) hbCd).trans d36; go_simp; try with_reducible rfl)); simp only [Act.put, List.setIfInBounds_toArray, List.set_cons_zero, List.set_cons_succ]
  first | (refine wpP_quiet (v := ?_) rfl (by rfl) ?_ ?_; rotate_left; (· (intro w' hw'; go_simp; try with_reducible rfl)); simp only [Act.put, List.setIfInBounds_toArray, List.set_cons_zero, List.set_cons_succ]) | (refine wpP_skip rfl (by rfl) ?_; simp only [Act.put, List.setIfInBounds_toArray, List.set_cons_zero, List.set_cons_succ])
  first | (refine wpP_quiet (v := ?_) rfl (by rfl) ?_ ?_; rotate_left; (· (intro w' hw'; go_simp; try with_reducible rfl)); simp only [Act.put, List.setIfInBounds_toArray, List.set_cons_zero, List.set_cons_succ]) | (refine wpP_skip rfl (by rfl) ?_; simp only [Act.put, List.setIfInBounds_toArray, List.set_cons_zero, List.set_cons_succ])
  first | (refine wpP_quiet (v := ?_) rfl (by rfl) ?_ ?_; rotate_left; (· (intro w' hw'; go_simp; try with_reducible rfl)); simp only [Act.put, List.setIfInBounds_toArray, List.set_cons_zero, List.set_cons_succ]) | (refine wpP_skip rfl (by rfl) ?_; simp only [Act.put, List.setIfInBounds_toArray, List.set_cons_zero, List.set_cons_succ])
  refine wpP_load rfl (by rfl) _ _ rfl b1 (o1 + q * 106 + 1) rfl (gcells (.slice Ag ng cg) s.g) _ (fun w' hw' => range_keep rgd (hw'.block _ hb1d)) Try.underlying42 rfl HIG.out ?_; simp only [Act.put, List.setIfInBounds_toArray, List.set_cons_zero, List.set_cons_succ]
  first | (refine wpP_quiet (v := ?_) rfl (by rfl) ?_ ?_; rotate_left; (· (intro w' hw'; go_simp; try with_reducible rfl)); simp only [Act.put, List.setIfInBounds_toArray, List.set_cons_zero, List.set_cons_succ]) | (refine wpP_skip rfl (by rfl) ?_; simp only [Act.put, List.setIfInBounds_toArray, List.set_cons_zero, List.set_cons_succ])
  refine wpP_quiet (v := ?_) rfl (by rfl) ?_ ?_; rotate_left; (· (intro w' hw'; have q0 := (hw'.cell (p := ⟨w.heap.size, 0, none⟩) hlPd).trans d0; go_simp; try with_reducible rfl)); simp only [Act.put, List.setIfInBounds_toArray, List.set_cons_zero, List.set_cons_succ]
  refine wpP_two ?_ ?_
  · refine wpP_loud rfl (by rfl) ?_
    intro K hK
    go_simp
    refine (show Calls _ _ _ _ (RGe U0 s.hs ng (g', er)) from by rw [← HR.out]; exact sideFn_any Ag ng cg s.hs s.g HSO.out.g right b c.now U0 slgd hgn bmd.lt (by rw [bmd.cell]; rfl) m1 m2 l1 l2 l3).mono ?_
    rintro e V1 ⟨A1, c1, rfl, sl1, hc1, fr1, le1⟩
    dsimp only
    obtain ⟨g1, p1, rfl, hg1⟩ := sl1.some_ hgp
    refine hK.out _ _ hc1 ?_
    clear hK K
    try simp only [Act.put, List.setIfInBounds_toArray, List.set_cons_zero, List.set_cons_succ]
    have hfr : U0.heap.size ≤ g1 := fr1 g1 rfl
    have LE1 := Lib.hid le1
    clear le1
    first | (refine wpP_quiet (v := ?_) rfl (by rfl) ?_ ?_; rotate_left; (· (intro w' hw'; go_simp; try with_reducible rfl)); simp only [Act.put, List.setIfInBounds_toArray, List.set_cons_zero, List.set_cons_succ]) | (refine wpP_skip rfl (by rfl) ?_; simp only [Act.put, List.setIfInBounds_toArray, List.set_cons_zero, List.set_cons_succ])
    first | (refine wpP_quiet (v := ?_) rfl (by rfl) ?_ ?_; rotate_left; (· (intro w' hw'; go_simp; try with_reducible rfl)); simp only [Act.put, List.setIfInBounds_toArray, List.set_cons_zero, List.set_cons_succ]) | (refine wpP_skip rfl (by rfl) ?_; simp only [Act.put, List.setIfInBounds_toArray, List.set_cons_zero, List.set_cons_succ])
    first | (refine wpP_quiet (v := ?_) rfl (by rfl) ?_ ?_; rotate_left; (· (intro w' hw'; go_simp; try with_reducible rfl)); simp only [Act.put, List.setIfInBounds_toArray, List.set_cons_zero, List.set_cons_succ]) | (refine wpP_skip rfl (by rfl) ?_; simp only [Act.put, List.setIfInBounds_toArray, List.set_cons_zero, List.set_cons_succ])
    refine wpP_one ?_
    refine wpP_loud rfl (by rfl) ?_
    intro K hK
    go_simp
    refine hK.out _ _ ((Below.refl _ _).alloc (by exact hc1.size) _) ?_
    clear hK K
    try simp only [Act.put, List.setIfInBounds_toArray, List.set_cons_zero, List.set_cons_succ]
    have bG : Blk (V1.alloc (.cells Try.zeroCells42 42)) V1.heap.size 42 Try.zeroCells42.toList := Blk.new V1 _ _
    have f2 : Below U0.heap.size U0 (V1.alloc (.cells Try.zeroCells42 42)) := hc1.alloc (by exact hc1.size) _
    have hVG : U0.heap.size ≤ V1.heap.size := hc1.size
    replace sl1 := sl1.alloc (.cells Try.zeroCells42 42)
    clear hc1 fr1
    generalize V1.alloc (.cells Try.zeroCells42 42) = V2 at *
    generalize hG : V1.heap.size = G at *
    have hgG : g1 ≠ G := by omega
    refine wpP_one ?_
    refine wpP_loud rfl (by rfl) ?_
    intro K hK
    refine wp_store_fld _ _ _ rfl G 0 _ _ (gcells (.slice (some ⟨g1, p1, none⟩) ng c1) g') rfl _ rfl rfl bG (by rw [gcells_len HGL.out, zero_len]; omega) (info_game HGL.out) (gcells_one rfl) ?_
    intro V3 bG3 bu3
    rw [put_all _ _ (by rw [gcells_len HGL.out, zero_len])] at bG3
    refine hK.out _ _ (below_but bu3 hVG f2.size) ?_
    clear hK K
    try simp only [Act.put, List.setIfInBounds_toArray, List.set_cons_zero, List.set_cons_succ]
    first | (refine wpP_quiet (v := ?_) rfl (by rfl) ?_ ?_; rotate_left; (· (intro w' hw'; go_simp; try with_reducible rfl)); simp only [Act.put, List.setIfInBounds_toArray, List.set_cons_zero, List.set_cons_succ]) | (refine wpP_skip rfl (by rfl) ?_; simp only [Act.put, List.setIfInBounds_toArray, List.set_cons_zero, List.set_cons_succ])
    refine wpP_done ?_
    clear rgd d42 d0 d36 slgd hbCd hb1d bmd
    have f3 := f2.trans (below_but bu3 hVG f2.size)
    have slg3 := sl1.but2 bu3 (fun b hb e => by injection e with e; have hb' : g1 = b := (by injection hb); omega)
    have HX3 := Lib.hid (HXD.out.to f3)
    have bz3 := bzd.to f3
    have bp3 := bpd.to f3
    have ff3 := ffd.trans (f3.mono ffd.size)
    have hs3 := f3.size
    clear bu3 f3 sl1 f2 bzd bpd ffd bG HXD
    by_cases he : er = 0
    · subst he
      go_wp2_with (first
        | (refine wpl_load_fld (by rfl) _ _ rfl w.heap.size 0 rfl (coC vt (.slice (some ⟨bc, oc, none⟩) 1 cc) c) _ bp3.range Try.underlying30 rfl ICO.out ?_))
      refine (ownC_any _ c HC.out V3 HX3.out).mono ?_
      intro e w4 hro
      obtain ⟨T, CB, SB, cC, cS, rest, srest, lo, rfl, hT, hCB, hSB, hSl, hb4, hone⟩ := hro.m HC.out HCL.out (by intro h0; have := HQ.out; rw [h0] at this; cases this) HNE.out
      have HONE := Lib.hid hone
      have hg3 := bG3.lt
      obtain ⟨_, _, e0, hg13⟩ := slg3.some_ hgp
      obtain ⟨rfl, rfl⟩ : g1 = _ ∧ p1 = _ := by injection e0 with e0; injection e0 with e1 e2; exact ⟨e1, e2⟩
      have bG4 := bG3.to hb4
      have slg4 := slg3.to hb4
      have bz4 := bz3.to hb4
      have f4 := ff3.trans (hb4.mono ff3.size)
      have hs4 := hb4.size
      have hL4 : Hid ((coC (.slice (some ⟨T, 0, none⟩) c.txs.length c.txs.length) (.slice (some ⟨CB, 0, none⟩) 1 cC) c).length = 43) := Lib.hid (coC_len HC.out.pre HC.out.bank)
      have I4 := Lib.hid (info_co (vt := .slice (some ⟨T, 0, none⟩) c.txs.length c.txs.length) (vc := .slice (some ⟨CB, 0, none⟩) 1 cC) HC.out.pre HC.out.bank)
      have HIG3 := Lib.hid (info_game (v := (.slice (some ⟨g1, p1, none⟩) ng c1)) HGL.out)
      clear bG3 slg3 bz3 bp3 ff3 hro hone HX3 hb4
      go_wp2_with (first
        | (refine wpl_store_new rfl _ _ _ rfl 30 _ (coC (.slice (some ⟨T, 0, none⟩) c.txs.length c.txs.length) (.slice (some ⟨CB, 0, none⟩) 1 cC) c) rfl rfl (by rw [hL4.out]; rfl) I4.out (coC_one rfl rfl) ?_
           intro w5 bo hz5
           simp only [Act.put, List.setIfInBounds_toArray, List.set_cons_zero, List.set_cons_succ]
           have HO := Lib.hid (HONE.out w4.heap.size w5 (Nat.le_refl _) hz5 bo)
           have bG5 := bG4.to hz5
           have slg5 := slg4.to hz5
           have bz5 := bz4.to hz5
           have f5 := f4.trans (hz5.mono f4.size)
           have hs5 := hz5.size
           clear bG4 slg4 bz4 f4 hz5 bo HONE)
        | (refine wpl_load_fld (by rfl) _ _ rfl G 0 rfl (gcells (.slice (some ⟨g1, p1, none⟩) ng c1) g') _ bG5.range Try.underlying42 rfl HIG3.out ?_))
      obtain ⟨us, hus⟩ := snd_get HO.out.ml HQ.out
      have hlay := lay_any HO.out q us s hus (.slice (some ⟨g1, p1, none⟩) ng c1) g' s.hs ⟨HGL.out, HSO.out.hs, HSO.out.n⟩ ⟨_, _, _, rfl, slg5, HNG.out, LE1.out, fun b hb hm => by
        have hb' : g1 = b := (by injection hb)
        simp at hm
        omega⟩ HBY.out HSB.out HBK.out
      refine hlay.mono ?_
      rintro e w8 ⟨rfl, fr8, h8⟩
      have HO8 := Lib.hid h8
      have bz8 := fr8.blk bz5 (by simp; omega)
      have f8 := f5.trans (fr8.below (D := w.heap.size) (fun b hb => by simp at hb; omega) f5.size)
      clear hlay hus slg5 bG5 bz5 f5 fr8 h8
      have e9 : movedR c x q s (g', 0) = (layC c x q (layS s g' s.hs), 0) := by unfold movedR; rw [if_pos rfl]
      obtain ⟨c9, hc9⟩ : ∃ c9, layC c x q (layS s g' s.hs) = c9 := ⟨_, rfl⟩
      rw [hc9] at HO8 e9
      have HE9 := Lib.hid e9
      have hP9 : c9.pre.length = 32 ∧ c9.bank.length = 8 := ⟨HO8.out.ok.pre, HO8.out.ok.bank⟩
      have HP9 := Lib.hid hP9
      have I9 := Lib.hid HO8.out.info
      clear e9 hc9 hP9
      go_wp2_with (first
        | (refine wpl_load_fld (by rfl) _ _ rfl w4.heap.size 0 rfl _ _ HO8.out.bp.range Try.underlying30 rfl I9.out ?_))
      refine (ownC_any _ _ HO8.out.ok w8 HO8.out.cox).mono ?_
      intro e w6 hro
      obtain ⟨vt6, vc6, rfl, o6t, o6c, hb6, hfin⟩ := hro.xt HO8.out.ok
      have hz9 := bz8.lt
      have bz6 := bz8.to hb6
      have f6 := f8.trans (hb6.mono f8.size)
      have IC6 := Lib.hid (info_co (vt := vt6) (vc := vc6) (c := c9) HP9.out.1 HP9.out.2)
      have HL6 : Hid ((coC vt6 vc6 c9).length = 43) := Lib.hid (coC_len (c := c9) HP9.out.1 HP9.out.2)
      have hf9 := f8.size
      clear hro bz8 f8
      go_wp2_with (first
        | (refine wpl_store_fld (by rfl) _ _ _ rfl (w.heap.size + 1) 0 _ _ (coC vt6 vc6 c9) rfl _ rfl rfl bz6 (by rw [HL6.out]; exact Nat.le_refl _) IC6.out (coC_one o6t o6c) ?_
           intro w7 bz7 bu7
           rw [put_all _ _ (by rw [HL6.out]; rfl)] at bz7))
      refine bodyPost_ret (results_blk2 Try.results36 rfl rfl bz7 Try.underlying30 rfl IC6.out) rfl ?_
      rw [HE9.out]
      refine ⟨_, rfl, ?_, f6.trans (below_but bu7 (by omega) f6.size)⟩
      exact fun S hS => hfin (w.heap.size + 1) w7 hz9 bu7 S (fun b hb => by have := hS b hb; omega)
    · have t1 : (er == 0) = false := by simpa using he
      have t2 : (er != 0) = true := by simpa using he
      have HE := Lib.hid he
      clear slg3 bG3
      go_wp2_with (first
        | (refine wpl_load_fld (by rfl) _ _ rfl w.heap.size 0 rfl (coC vt (.slice (some ⟨bc, oc, none⟩) 1 cc) c) _ bp3.range Try.underlying30 rfl ICO.out ?_))
      refine (ownC_any _ _ HC.out V3 HX3.out).mono ?_
      intro e w6 hro
      obtain ⟨vt6, vc6, rfl, o6t, o6c, hb6, hfin⟩ := hro.xt HC.out
      have hz9 := bz3.lt
      have bz6 := bz3.to hb6
      have f6 := ff3.trans (hb6.mono ff3.size)
      have IC6 := Lib.hid (info_co (vt := vt6) (vc := vc6) (c := c) HC.out.pre HC.out.bank)
      have HL6 : Hid ((coC vt6 vc6 c).length = 43) := Lib.hid (coC_len (c := c) HC.out.pre HC.out.bank)
      have hf9 := ff3.size
      clear hro bz3 ff3
      go_wp2_with (first
        | (refine wpl_store_fld (by rfl) _ _ _ rfl (w.heap.size + 1) 0 _ _ (coC vt6 vc6 c) rfl _ rfl rfl bz6 (by rw [HL6.out]; exact Nat.le_refl _) IC6.out (coC_one o6t o6c) ?_
           intro w7 bz7 bu7
           rw [put_all _ _ (by rw [HL6.out]; rfl)] at bz7))
      refine bodyPost_ret (results_blk2 Try.results36 rfl rfl bz7 Try.underlying30 rfl IC6.out) rfl ?_
      rw [show movedR c x q s (g', er) = (c, er) from by unfold movedR; rw [if_neg HE.out]]
      refine ⟨_, rfl, ?_, f6.trans (below_but bu7 (by omega) f6.size)⟩
      exact fun S hS => hfin (w.heap.size + 1) w7 hz9 bu7 S (fun b hb => by have := hS b hb; omega)
  · refine wpP_loud rfl (by rfl) ?_
    intro K hK
    go_simp
    refine hK.out _ _ ((Below.refl _ _).alloc (Nat.le_refl _) _) ?_
    clear hK K
    try simp only [Act.put, List.setIfInBounds_toArray, List.set_cons_zero, List.set_cons_succ]
    have bG : Blk (U0.alloc (.cells Try.zeroCells42 42)) U0.heap.size 42 Try.zeroCells42.toList := Blk.new U0 _ _
    have f2 : Below U0.heap.size U0 (U0.alloc (.cells Try.zeroCells42 42)) := (Below.refl _ _).alloc (Nat.le_refl _) _
    generalize U0.alloc (.cells Try.zeroCells42 42) = V2 at *
    obtain ⟨G, hG⟩ : ∃ G, U0.heap.size = G := ⟨_, rfl⟩
    rw [show Blk V2 U0.heap.size 42 Try.zeroCells42.toList = Blk V2 G 42 Try.zeroCells42.toList from by rw [hG]] at bG
    have hVG : U0.heap.size ≤ G := by omega
    have hGl := bG.lt
    refine wpP_one ?_
    refine wpP_loud rfl (by rfl) ?_
    intro K hK
    go_simp
    refine (show Calls _ _ _ _ (RGe V2 s.hs ng (g', er)) from by rw [← HR.out]; exact sideFn_any Ag ng cg s.hs s.g HSO.out.g right b c.now V2 (slgd.to f2) hgn (bmd.to f2).lt (by rw [(bmd.to f2).cell]; rfl) m1 m2 l1 l2 l3).mono ?_
    rintro e V1 ⟨A1, c1, rfl, sl1, hc1, fr1, le1⟩
    dsimp only
    obtain ⟨g1, p1, rfl, hg1⟩ := sl1.some_ hgp
    refine hK.out _ _ (hc1.mono f2.size) ?_
    clear hK K
    try simp only [Act.put, List.setIfInBounds_toArray, List.set_cons_zero, List.set_cons_succ]
    have hg2 : V2.heap.size ≤ g1 := fr1 g1 rfl
    have hfr : U0.heap.size ≤ g1 := Nat.le_trans f2.size hg2
    replace bG := bG.to hc1
    replace f2 := f2.trans (hc1.mono f2.size)
    have LE1 := Lib.hid le1
    have hgG : g1 ≠ G := by omega
    clear hc1 fr1 le1
    first | (refine wpP_quiet (v := ?_) rfl (by rfl) ?_ ?_; rotate_left; (· (intro w' hw'; go_simp; try with_reducible rfl)); simp only [Act.put, List.setIfInBounds_toArray, List.set_cons_zero, List.set_cons_succ]) | (refine wpP_skip rfl (by rfl) ?_; simp only [Act.put, List.setIfInBounds_toArray, List.set_cons_zero, List.set_cons_succ])
    first | (refine wpP_quiet (v := ?_) rfl (by rfl) ?_ ?_; rotate_left; (· (intro w' hw'; go_simp; try with_reducible rfl)); simp only [Act.put, List.setIfInBounds_toArray, List.set_cons_zero, List.set_cons_succ]) | (refine wpP_skip rfl (by rfl) ?_; simp only [Act.put, List.setIfInBounds_toArray, List.set_cons_zero, List.set_cons_succ])
    first | (refine wpP_quiet (v := ?_) rfl (by rfl) ?_ ?_; rotate_left; (· (intro w' hw'; go_simp; try with_reducible rfl)); simp only [Act.put, List.setIfInBounds_toArray, List.set_cons_zero, List.set_cons_succ]) | (refine wpP_skip rfl (by rfl) ?_; simp only [Act.put, List.setIfInBounds_toArray, List.set_cons_zero, List.set_cons_succ])
    refine wpP_one ?_
    refine wpP_loud rfl (by rfl) ?_
    intro K hK
    refine wp_store_fld _ _ _ rfl G 0 _ _ (gcells (.slice (some ⟨g1, p1, none⟩) ng c1) g') rfl _ rfl rfl bG (by rw [gcells_len HGL.out, zero_len]; omega) (info_game HGL.out) (gcells_one rfl) ?_
    intro V3 bG3 bu3
    rw [put_all _ _ (by rw [gcells_len HGL.out, zero_len])] at bG3
    refine hK.out _ _ (below_but bu3 hVG f2.size) ?_
    clear hK K
    try simp only [Act.put, List.setIfInBounds_toArray, List.set_cons_zero, List.set_cons_succ]
    first | (refine wpP_quiet (v := ?_) rfl (by rfl) ?_ ?_; rotate_left; (· (intro w' hw'; go_simp; try with_reducible rfl)); simp only [Act.put, List.setIfInBounds_toArray, List.set_cons_zero, List.set_cons_succ]) | (refine wpP_skip rfl (by rfl) ?_; simp only [Act.put, List.setIfInBounds_toArray, List.set_cons_zero, List.set_cons_succ])
    refine wpP_done ?_
    clear rgd d42 d0 d36 slgd hbCd hb1d bmd
    have f3 := f2.trans (below_but bu3 hVG f2.size)
    have slg3 := sl1.but2 bu3 (fun b hb e => by injection e with e; have hb' : g1 = b := (by injection hb); omega)
    have HX3 := Lib.hid (HXD.out.to f3)
    have bz3 := bzd.to f3
    have bp3 := bpd.to f3
    have ff3 := ffd.trans (f3.mono ffd.size)
    have hs3 := f3.size
    clear bu3 f3 sl1 f2 bzd bpd ffd bG HXD
    by_cases he : er = 0
    · subst he
      go_wp2_with (first
        | (refine wpl_load_fld (by rfl) _ _ rfl w.heap.size 0 rfl (coC vt (.slice (some ⟨bc, oc, none⟩) 1 cc) c) _ bp3.range Try.underlying30 rfl ICO.out ?_))
      refine (ownC_any _ c HC.out V3 HX3.out).mono ?_
      intro e w4 hro
      obtain ⟨T, CB, SB, cC, cS, rest, srest, lo, rfl, hT, hCB, hSB, hSl, hb4, hone⟩ := hro.m HC.out HCL.out (by intro h0; have := HQ.out; rw [h0] at this; cases this) HNE.out
      have HONE := Lib.hid hone
      have hg3 := bG3.lt
      obtain ⟨_, _, e0, hg13⟩ := slg3.some_ hgp
      obtain ⟨rfl, rfl⟩ : g1 = _ ∧ p1 = _ := by injection e0 with e0; injection e0 with e1 e2; exact ⟨e1, e2⟩
      have bG4 := bG3.to hb4
      have slg4 := slg3.to hb4
      have bz4 := bz3.to hb4
      have f4 := ff3.trans (hb4.mono ff3.size)
      have hs4 := hb4.size
      have hL4 : Hid ((coC (.slice (some ⟨T, 0, none⟩) c.txs.length c.txs.length) (.slice (some ⟨CB, 0, none⟩) 1 cC) c).length = 43) := Lib.hid (coC_len HC.out.pre HC.out.bank)
      have I4 := Lib.hid (info_co (vt := .slice (some ⟨T, 0, none⟩) c.txs.length c.txs.length) (vc := .slice (some ⟨CB, 0, none⟩) 1 cC) HC.out.pre HC.out.bank)
      have HIG3 := Lib.hid (info_game (v := (.slice (some ⟨g1, p1, none⟩) ng c1)) HGL.out)
      clear bG3 slg3 bz3 bp3 ff3 hro hone HX3 hb4
      go_wp2_with (first
        | (refine wpl_store_new rfl _ _ _ rfl 30 _ (coC (.slice (some ⟨T, 0, none⟩) c.txs.length c.txs.length) (.slice (some ⟨CB, 0, none⟩) 1 cC) c) rfl rfl (by rw [hL4.out]; rfl) I4.out (coC_one rfl rfl) ?_
           intro w5 bo hz5
           simp only [Act.put, List.setIfInBounds_toArray, List.set_cons_zero, List.set_cons_succ]
           have HO := Lib.hid (HONE.out w4.heap.size w5 (Nat.le_refl _) hz5 bo)
           have bG5 := bG4.to hz5
           have slg5 := slg4.to hz5
           have bz5 := bz4.to hz5
           have f5 := f4.trans (hz5.mono f4.size)
           have hs5 := hz5.size
           clear bG4 slg4 bz4 f4 hz5 bo HONE)
        | (refine wpl_load_fld (by rfl) _ _ rfl G 0 rfl (gcells (.slice (some ⟨g1, p1, none⟩) ng c1) g') _ bG5.range Try.underlying42 rfl HIG3.out ?_))
      obtain ⟨us, hus⟩ := snd_get HO.out.ml HQ.out
      have hlay := lay_any HO.out q us s hus (.slice (some ⟨g1, p1, none⟩) ng c1) g' s.hs ⟨HGL.out, HSO.out.hs, HSO.out.n⟩ ⟨_, _, _, rfl, slg5, HNG.out, LE1.out, fun b hb hm => by
        have hb' : g1 = b := (by injection hb)
        simp at hm
        omega⟩ HBY.out HSB.out HBK.out
      refine hlay.mono ?_
      rintro e w8 ⟨rfl, fr8, h8⟩
      have HO8 := Lib.hid h8
      have bz8 := fr8.blk bz5 (by simp; omega)
      have f8 := f5.trans (fr8.below (D := w.heap.size) (fun b hb => by simp at hb; omega) f5.size)
      clear hlay hus slg5 bG5 bz5 f5 fr8 h8
      have e9 : movedR c x q s (g', 0) = (layC c x q (layS s g' s.hs), 0) := by unfold movedR; rw [if_pos rfl]
      obtain ⟨c9, hc9⟩ : ∃ c9, layC c x q (layS s g' s.hs) = c9 := ⟨_, rfl⟩
      rw [hc9] at HO8 e9
      have HE9 := Lib.hid e9
      have hP9 : c9.pre.length = 32 ∧ c9.bank.length = 8 := ⟨HO8.out.ok.pre, HO8.out.ok.bank⟩
      have HP9 := Lib.hid hP9
      have I9 := Lib.hid HO8.out.info
      clear e9 hc9 hP9
      go_wp2_with (first
        | (refine wpl_load_fld (by rfl) _ _ rfl w4.heap.size 0 rfl _ _ HO8.out.bp.range Try.underlying30 rfl I9.out ?_))
      refine (ownC_any _ _ HO8.out.ok w8 HO8.out.cox).mono ?_
      intro e w6 hro
      obtain ⟨vt6, vc6, rfl, o6t, o6c, hb6, hfin⟩ := hro.xt HO8.out.ok
      have hz9 := bz8.lt
      have bz6 := bz8.to hb6
      have f6 := f8.trans (hb6.mono f8.size)
      have IC6 := Lib.hid (info_co (vt := vt6) (vc := vc6) (c := c9) HP9.out.1 HP9.out.2)
      have HL6 : Hid ((coC vt6 vc6 c9).length = 43) := Lib.hid (coC_len (c := c9) HP9.out.1 HP9.out.2)
      have hf9 := f8.size
      clear hro bz8 f8
      go_wp2_with (first
        | (refine wpl_store_fld (by rfl) _ _ _ rfl (w.heap.size + 1) 0 _ _ (coC vt6 vc6 c9) rfl _ rfl rfl bz6 (by rw [HL6.out]; exact Nat.le_refl _) IC6.out (coC_one o6t o6c) ?_
           intro w7 bz7 bu7
           rw [put_all _ _ (by rw [HL6.out]; rfl)] at bz7))
      refine bodyPost_ret (results_blk2 Try.results36 rfl rfl bz7 Try.underlying30 rfl IC6.out) rfl ?_
      rw [HE9.out]
      refine ⟨_, rfl, ?_, f6.trans (below_but bu7 (by omega) f6.size)⟩
      exact fun S hS => hfin (w.heap.size + 1) w7 hz9 bu7 S (fun b hb => by have := hS b hb; omega)
    · have t1 : (er == 0) = false := by simpa using he
      have t2 : (er != 0) = true := by simpa using he
      have HE := Lib.hid he
      clear slg3 bG3
      go_wp2_with (first
        | (refine wpl_load_fld (by rfl) _ _ rfl w.heap.size 0 rfl (coC vt (.slice (some ⟨bc, oc, none⟩) 1 cc) c) _ bp3.range Try.underlying30 rfl ICO.out ?_))
      refine (ownC_any _ _ HC.out V3 HX3.out).mono ?_
      intro e w6 hro
      obtain ⟨vt6, vc6, rfl, o6t, o6c, hb6, hfin⟩ := hro.xt HC.out
      have hz9 := bz3.lt
      have bz6 := bz3.to hb6
      have f6 := ff3.trans (hb6.mono ff3.size)
      have IC6 := Lib.hid (info_co (vt := vt6) (vc := vc6) (c := c) HC.out.pre HC.out.bank)
      have HL6 : Hid ((coC vt6 vc6 c).length = 43) := Lib.hid (coC_len (c := c) HC.out.pre HC.out.bank)
      have hf9 := ff3.size
      clear hro bz3 ff3
      go_wp2_with (first
        | (refine wpl_store_fld (by rfl) _ _ _ rfl (w.heap.size + 1) 0 _ _ (coC vt6 vc6 c) rfl _ rfl rfl bz6 (by rw [HL6.out]; exact Nat.le_refl _) IC6.out (coC_one o6t o6c) ?_
           intro w7 bz7 bu7
           rw [put_all _ _ (by rw [HL6.out]; rfl)] at bz7))
      refine bodyPost_ret (results_blk2 Try.results36 rfl rfl bz7 Try.underlying30 rfl IC6.out) rfl ?_
      rw [show movedR c x q s (g', er) = (c, er) from by unfold movedR; rw [if_neg HE.out]]
      refine ⟨_, rfl, ?_, f6.trans (below_but bu7 (by omega) f6.size)⟩
      exact fun S hS => hfin (w.heap.size + 1) w7 hz9 bu7 S (fun b hb => by have := hS b hb; omega)
end Go.Proofs.Ytdopgooglicaiaa
