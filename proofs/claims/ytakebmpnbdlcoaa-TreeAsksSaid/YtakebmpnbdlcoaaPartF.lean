/- The texts of this claim, part F: words, plain laws, walks. -/
import Derived.Test.YtakebmpnbdlcoaaPartE
import Derived.Test.YtakebmpnbdlcoaaPartC
import Derived.Test.YtakebmpnbdlcoaaPartB
import Derived.Test.YtakebmpnbdlcoaaPartD
/- Walks: an account's sum (tree.Leaf). -/
set_option linter.unusedSimpArgs false
set_option linter.unusedVariables false
namespace Go.Proofs.Ytakebmpnbdlcoaa
open Go.RowKit
set_option maxRecDepth 100000
/-- an account boxed, beside a block for the sum that is handed back -/
theorem box_acc (w : World) (a : Acc) : ∃ W, Hid (W = (w.alloc (.cells (accC a).toArray 23)).alloc (.cells #[.int .u8 0, .int .u8 0, .int .u8 0, .int .u8 0, .int .u8 0, .int .u8 0, .int .u8 0, .int .u8 0, .int .u8 0, .int .u8 0, .int .u8 0, .int .u8 0, .int .u8 0, .int .u8 0, .int .u8 0, .int .u8 0, .int .u8 0, .int .u8 0, .int .u8 0, .int .u8 0, .int .u8 0, .int .u8 0, .int .u8 0, .int .u8 0, .int .u8 0, .int .u8 0, .int .u8 0, .int .u8 0, .int .u8 0, .int .u8 0, .int .u8 0, .int .u8 0] 27)) ∧ Below w.heap.size w W ∧ Blk W w.heap.size 23 (accC a) ∧ Blk W (w.heap.size + 1) 27 (B8 zero32) := by
  refine ⟨_, rfl, ((Below.refl _ _).alloc (Nat.le_refl _) _).alloc (by simp) _, ?_, ?_⟩
  · exact (Blk.new w (accC a).toArray 23).to ((Below.refl _ _).alloc (Nat.le_refl _) _)
  · have := Blk.new (w.alloc (.cells (accC a).toArray 23)) #[.int .u8 0, .int .u8 0, .int .u8 0, .int .u8 0, .int .u8 0, .int .u8 0, .int .u8 0, .int .u8 0, .int .u8 0, .int .u8 0, .int .u8 0, .int .u8 0, .int .u8 0, .int .u8 0, .int .u8 0, .int .u8 0, .int .u8 0, .int .u8 0, .int .u8 0, .int .u8 0, .int .u8 0, .int .u8 0, .int .u8 0, .int .u8 0, .int .u8 0, .int .u8 0, .int .u8 0, .int .u8 0, .int .u8 0, .int .u8 0, .int .u8 0, .int .u8 0] 27
    rw [show (w.alloc (.cells (accC a).toArray 23)).heap.size = w.heap.size + 1 from by simp] at this
    exact this
def nums (a : Acc) : List Int := [a.id, a.bal, a.non, a.dat]
def pre_ (a : Acc) (k : Nat) : List UInt8 := [0] ++ ((nums a).take k).flatMap fun n => enc (zig n)
theorem pre_next (a : Acc) (k : Nat) (n : Int) (h : (nums a)[k]? = some n) : pre_ a (k + 1) = pre_ a k ++ enc (zig n) := by
  unfold pre_
  rw [List.take_add_one, h, List.flatMap_append]
  simp
theorem pre_end (a : Acc) : pre_ a 4 = [0] ++ enc (zig a.id) ++ enc (zig a.bal) ++ enc (zig a.non) ++ enc (zig a.dat) := by
  simp [pre_, nums]
theorem nums_wf {a : Acc} (h : a.wf) : ∀ (k : Nat) (n : Int), (nums a)[k]? = some n → -9223372036854775808 ≤ n ∧ n < 9223372036854775808 := by
  intro k n hk
  have := List.mem_of_getElem? hk
  simp only [nums, List.mem_cons, List.not_mem_nil, or_false] at this
  rcases this with rfl | rfl | rfl | rfl
  · exact h.id
  · exact h.bal
  · exact h.non
  · exact h.dat
set_option maxRecDepth 100000 in
set_option maxHeartbeats 4000000 in
theorem leaf_any (a : Acc) (hw : a.wf) (w : World) : Calls Try.prog 17 #[accV a] w fun e w' => e = .returned (hv (leafS a)) ∧ Below w.heap.size w w' := by
  unfold accV
  obtain ⟨W, HW, hbw, ba, bz⟩ := box_acc w a
  have c1 : W.cell? ⟨w.heap.size, 1, none⟩ = some (.int .i64 a.bal) := by rw [ba.cell]; rfl
  have c2 : W.cell? ⟨w.heap.size, 2, none⟩ = some (.int .i64 a.non) := by rw [ba.cell]; rfl
  have c3 : W.cell? ⟨w.heap.size, 3, none⟩ = some (.int .i64 a.dat) := by rw [ba.cell]; rfl
  have HWF := Lib.hid hw
  clear hw
  by_cases hn : a.none
  · have HL : Hid (leafS a = zero32) := (show _ = _ by unfold leafS; rw [if_pos hn])
    obtain ⟨h1, h2, h3⟩ := hn
    rw [h1] at c1
    rw [h2] at c2
    rw [h3] at c3
    clear h1 h2 h3
    go_enter Try.func17, Try.ntmps17
    go_upto_region 1 with fail
    refine wp_at HW.out ?_
    clear HW
    go_wp2_with (first
      | (refine wpl_build (by rfl) _ _ rfl _ built_zero_ ?_)
      | (refine wpl_store_fld (by rfl) _ _ _ rfl (w.heap.size + 1) 0 _ _ (B8 zero32) rfl _ rfl rfl bz (by decide) (info_hash rfl) (B8_one _) ?_
         intro w1 bz1 bu1
         rw [put_all _ _ rfl] at bz1))
    refine bodyPost_ret (v := .agg (B8 (leafS a)).toArray) ?_ rfl ⟨rfl, hbw.trans (below_but bu1 (by omega) hbw.size)⟩
    rw [HL.out]
    exact results_blk Try.results17 rfl bz1 Try.underlying27 rfl (info_hash rfl)
  · have HL : Hid (leafS a = shaS (pre_ a 4)) := (show _ = _ by unfold leafS; rw [if_neg hn, pre_end])
    have hc : (a.bal == 0) = false ∨ a.bal = 0 ∧ (a.non == 0) = false ∨ a.bal = 0 ∧ a.non = 0 ∧ (a.dat == 0) = false := by
      by_cases h1 : a.bal = 0
      · by_cases h2 : a.non = 0
        · by_cases h3 : a.dat = 0
          · exact absurd ⟨h1, h2, h3⟩ hn
          · exact .inr (.inr ⟨h1, h2, by simpa using h3⟩)
        · exact .inr (.inl ⟨h1, by simpa using h2⟩)
      · exact .inl (by simpa using h1)
    clear hn
    go_enter Try.func17, Try.ntmps17
    go_upto_region 1 with fail
    refine wp_at HW.out ?_
    clear HW
    rcases hc with h1 | ⟨h1, h2⟩ | ⟨h1, h2, h3⟩
    all_goals
      go_upto_region 4 with fail
      clear h1
      try clear h2
      try clear h3
      have h0 : Below W.heap.size W (W.alloc (.cells #[.int .u8 0] 5)) := (Below.refl _ _).alloc (Nat.le_refl _) _
      have ba2 := ba.to h0
      have bz2 := bz.to h0
      have f2 := hbw.trans (h0.mono hbw.size)
      have sl2 : Sl (W.alloc (.cells #[.int .u8 0] 5)) 1 (some ⟨W.heap.size, 0, none⟩) 1 (B8 (pre_ a 0)) := Sl.new (size := 1) W #[.int .u8 0] 5 (0, 0) 1 rfl
      have hWz := bz.lt
      generalize W.alloc (.cells #[.int .u8 0] 5) = V at *
      clear ba bz hbw c1 c2 c3 h0
      have c0 : V.cell? ⟨w.heap.size, 0, none⟩ = some (.int .i64 a.id) := by rw [ba2.cell]; rfl
      have c1 : V.cell? ⟨w.heap.size, 1, none⟩ = some (.int .i64 a.bal) := by rw [ba2.cell]; rfl
      have c2 : V.cell? ⟨w.heap.size, 2, none⟩ = some (.int .i64 a.non) := by rw [ba2.cell]; rfl
      have c3 : V.cell? ⟨w.heap.size, 3, none⟩ = some (.int .i64 a.dat) := by rw [ba2.cell]; rfl
      go_wp2_with fail
      have h4 : Below V.heap.size V (V.alloc (.cells #[.int .i64 a.id, .int .i64 a.bal, .int .i64 a.non, .int .i64 a.dat] 3)) := (Below.refl _ _).alloc (Nat.le_refl _) _
      have bi : Blk (V.alloc (.cells #[.int .i64 a.id, .int .i64 a.bal, .int .i64 a.non, .int .i64 a.dat] 3)) V.heap.size 3 ((nums a).map (Value.int .i64)) := Blk.new V #[.int .i64 a.id, .int .i64 a.bal, .int .i64 a.non, .int .i64 a.dat] 3
      have bz3 := bz2.to h4
      have f3 := f2.trans (h4.mono f2.size)
      have sl3 := sl2.to h4
      have hbi := bi.lt
      obtain ⟨pI, hpI⟩ : ∃ p, p = V.heap.size := ⟨_, rfl⟩
      rw [← hpI] at bi hbi ⊢
      generalize V.alloc (.cells #[.int .i64 a.id, .int .i64 a.bal, .int .i64 a.non, .int .i64 a.dat] 3) = V2 at *
      clear c0 c1 c2 c3 h4 ba2 bz2 f2 sl2 hpI
      go_loopw [3, 31] (fun b k wr => ∃ (q m c : Nat) (A : Option Addr), b = .slice A m c ∧ k = .int .i64 (q : Int) ∧ q ≤ 4 ∧ m ≤ 1 + 10 * q ∧ Sl wr 1 A m (B8 (pre_ a q)) ∧ Below V2.heap.size V2 wr) (fun _ k _ => 4 - (intOf k).toNat)
      case atStart => exact ⟨0, 1, 1, some ⟨W.heap.size, 0, none⟩, rfl, rfl, by omega, by omega, sl3, Below.refl _ _⟩
      case round =>
        obtain ⟨q, m, c, A, rfl, rfl, hq, hm, sq, hb⟩ := hrel
        by_cases hlt : q < 4
        · have t1 : (q : Int) < 4 := by omega
          obtain ⟨n, hnq⟩ : ∃ n, (nums a)[q]? = some n := ⟨_, List.getElem?_eq_getElem (by simpa [nums] using hlt)⟩
          obtain ⟨nlo, nhi⟩ := nums_wf HWF.out q n hnq
          have cq : wr.cell? ⟨pI, q, none⟩ = some (.int .i64 n) := by
            rw [(bi.to hb).cell, List.getElem?_map, hnq]
            rfl
          have HPN := Lib.hid (pre_next a q n hnq)
          have hel : (enc (zig n)).length ≤ 10 := enc_le (zig_lt nlo nhi)
          have hml := Lib.hid sq.len8
          have hm40 : m ≤ 100 := by omega
          clear hnq
          go_wp2_with fail
          refine (int_any A m c (pre_ a q) n wr sq (by omega) nlo nhi).mono ?_
          rintro e w5 ⟨A5, m5, c5, rfl, ho5, h5⟩
          have hb5 := hb.trans (h5.mono hb.size)
          have sq5 := ho5.sl
          have hm5 := sq5.len8
          rw [List.length_append, ← hml.out] at hm5
          rw [← HPN.out] at sq5
          have hm50 : m5 ≤ 1 + 10 * (q + 1) := by omega
          clear hm5
          clear cq ho5 h5
          go_wp2_with fail
          go_roundw
          case rel => exact ⟨q + 1, m5, c5, A5, rfl, by go_num, by omega, hm50, sq5, hb5⟩
          case measure => simp [intOf]; omega
        · have t1 : ¬ (q : Int) < 4 := by omega
          obtain rfl : q = 4 := by omega
          go_wp2_with fail
          refine (sum_any A m c (pre_ a 4) wr sq (by omega)).mono ?_
          rintro e w6 ⟨rfl, h6⟩
          have HS := Lib.hid (shaS_len (pre_ a 4))
          rw [← HL.out] at HS ⊢
          unfold hv
          have bz6 := (bz3.to hb).to h6
          have f6 := (f3.trans (hb.mono f3.size)).trans (h6.mono (by have := f3.size; have := hb.size; omega))
          go_wp2_with (first
            | (refine wpl_store_fld (by rfl) _ _ _ rfl (w.heap.size + 1) 0 _ _ (B8 (leafS a)) rfl _ rfl rfl bz6 (by rw [B8_len, HS.out]; decide) (info_hash HS.out) (B8_one _) ?_
               intro w7 bz7 bu7
               rw [put_all _ _ (by rw [B8_len, HS.out]; rfl)] at bz7))
          refine bodyPost_ret (v := .agg (B8 (leafS a)).toArray) ?_ rfl ⟨rfl, f6.trans (below_but bu7 (by omega) f6.size)⟩
          exact results_blk Try.results17 rfl bz7 Try.underlying27 rfl (info_hash HS.out)
end Go.Proofs.Ytakebmpnbdlcoaa
/- A drawn region that only reads, walked in one order in the world as it stands. -/
set_option linter.unusedSimpArgs false
set_option linter.unusedVariables false
namespace Go.Proofs.Ytakebmpnbdlcoaa
open Go.RowKit
set_option maxRecDepth 100000
def REq (w w' : World) : Prop := w = w'
theorem REq.refl_ (w : World) : REq w w := rfl
theorem REq.trans_ (a b c : World) (h : REq a b) (k : REq b c) : REq a c := Eq.trans h k
section
variable {P : Program} {ops : Array Oper} {Q : Exit → Act → World → Prop}
theorem wpC_eq {i : Nat} {rest : List (Nat × Bool)} {o : Oper} {v : Value} {a : Act} {w : World} (ho : nth ops.toList i = some o) (hw : Region.wanted o (yielded ops a.tmps) = true)
    (hy : (execOp a.eval o).run P w = .ok (.value v) w) (h : wpC P ops Q REq rest (a.put o.dst v) w) : wpC P ops Q REq ((i, true) :: rest) a w :=
  wpC_quiet ho hw (fun w' hw' => by cases hw'; exact hy) h
theorem wp_region_E {id : Nat} {a : Act} {w : World} (l : List (Nat × Bool)) (hm : P.follows .mixedOrders = true) (hs : Region.noSelect ops = true) (hok : canonOk ops l (Array.replicate ops.size false) = true) (hl : l.length ≤ ops.size)
    (hQ : ∀ (d : Option Tmp) (v : Value) c a w, Q (.panic c) (a.put d v) w → Q (.panic c) a w)
    (h : wpC P ops Q REq l a w.drew) : (Code.region id ops true).wp P Q a w := wp_region_C l REq hm hs hok hl REq.refl_ REq.trans_ hQ h
end
end Go.Proofs.Ytakebmpnbdlcoaa
/- Walks: the document's states (capstanref8: None, Get). -/
set_option linter.unusedSimpArgs false
set_option linter.unusedVariables false
namespace Go.Proofs.Ytakebmpnbdlcoaa
open Go.RowKit
set_option maxRecDepth 100000
theorem refNone_any (a : Acc) (w : World) : Calls Try.prog 45 #[accV a] w (RB (decide a.none) w) := by
  unfold accV
  obtain ⟨W, HW, hbw, ba⟩ : ∃ W, Hid (W = w.alloc (.cells (accC a).toArray 23)) ∧ Below w.heap.size w W ∧ Blk W w.heap.size 23 (accC a) := ⟨_, rfl, (Below.refl _ _).alloc (Nat.le_refl _) _, Blk.new w (accC a).toArray 23⟩
  have c1 : W.cell? ⟨w.heap.size, 1, none⟩ = some (.int .i64 a.bal) := by rw [ba.cell]; rfl
  have c2 : W.cell? ⟨w.heap.size, 2, none⟩ = some (.int .i64 a.non) := by rw [ba.cell]; rfl
  have c3 : W.cell? ⟨w.heap.size, 3, none⟩ = some (.int .i64 a.dat) := by rw [ba.cell]; rfl
  by_cases hn : a.none
  · rw [decide_eq_true hn]
    obtain ⟨h1, h2, h3⟩ := hn
    rw [h1] at c1
    rw [h2] at c2
    rw [h3] at c3
    clear h1 h2 h3
    go_enter Try.func45, Try.ntmps45
    go_upto_region 1 with fail
    refine wp_at HW.out ?_
    clear HW
    go_wp2_with fail
    go_ret
    exact ⟨rfl, hbw⟩
  · rw [decide_eq_false hn]
    have hc : (a.bal == 0) = false ∨ a.bal = 0 ∧ (a.non == 0) = false ∨ a.bal = 0 ∧ a.non = 0 ∧ (a.dat == 0) = false := by
      by_cases h1 : a.bal = 0
      · by_cases h2 : a.non = 0
        · by_cases h3 : a.dat = 0
          · exact absurd ⟨h1, h2, h3⟩ hn
          · exact .inr (.inr ⟨h1, h2, by simpa using h3⟩)
        · exact .inr (.inl ⟨h1, by simpa using h2⟩)
      · exact .inl (by simpa using h1)
    clear hn
    go_enter Try.func45, Try.ntmps45
    go_upto_region 1 with fail
    refine wp_at HW.out ?_
    clear HW
    rcases hc with h1 | ⟨h1, h2⟩ | ⟨h1, h2, h3⟩
    all_goals
      go_wp2_with fail
      go_ret
      exact ⟨by simp [*], hbw⟩
theorem built_acc (i : Int) : Try.prog.built 23 [(0, .int .i64 i)] = some (accC ⟨i, 0, 0, 0⟩).toArray := by kernel_rfl
theorem get_drop {s : List Acc} {k : Nat} {x : Acc} {i : Int} (h : s[k]? = some x) (hi : x.id ≠ i) : getS (s.drop k) i = getS (s.drop (k + 1)) i := by
  obtain ⟨hk, rfl⟩ := List.getElem?_eq_some_iff.1 h
  rw [List.drop_eq_getElem_cons hk]
  conv => lhs; unfold getS
  rw [if_neg hi]
theorem get_hit {s : List Acc} {k : Nat} {x : Acc} {i : Int} (h : s[k]? = some x) (hi : x.id = i) : getS (s.drop k) i = x := by
  obtain ⟨hk, rfl⟩ := List.getElem?_eq_some_iff.1 h
  rw [List.drop_eq_getElem_cons hk]
  unfold getS
  rw [if_pos hi]
/-- an account's cells, of a block of its own, as the walk asks for them -/
theorem acc_cells {w : World} {b : Nat} {t : TypeId} {a : Acc} (h : Blk w b t (accC a)) :
    (w.frozen? ⟨b, 0, none⟩ = false ∧ w.frozen? ⟨b, 1, none⟩ = false ∧ w.frozen? ⟨b, 2, none⟩ = false ∧ w.frozen? ⟨b, 3, none⟩ = false) ∧
    w.cell? ⟨b, 0, none⟩ = some (.int .i64 a.id) ∧ w.cell? ⟨b, 1, none⟩ = some (.int .i64 a.bal) ∧ w.cell? ⟨b, 2, none⟩ = some (.int .i64 a.non) ∧ w.cell? ⟨b, 3, none⟩ = some (.int .i64 a.dat) :=
  ⟨⟨h.fz 0, h.fz 1, h.fz 2, h.fz 3⟩, by rw [h.cell]; rfl, by rw [h.cell]; rfl, by rw [h.cell]; rfl, by rw [h.cell]; rfl⟩
theorem acc_stored {w : World} {b : Nat} {t : TypeId} {a : Acc} (h : Blk w b t (accC a)) (x : Acc) :
    Blk ((((w.setCell ⟨b, 0, none⟩ (.int .i64 x.id)).setCell ⟨b, 1, none⟩ (.int .i64 x.bal)).setCell ⟨b, 2, none⟩ (.int .i64 x.non)).setCell ⟨b, 3, none⟩ (.int .i64 x.dat)) b t (accC x) ∧
    RBut (some b) w ((((w.setCell ⟨b, 0, none⟩ (.int .i64 x.id)).setCell ⟨b, 1, none⟩ (.int .i64 x.bal)).setCell ⟨b, 2, none⟩ (.int .i64 x.non)).setCell ⟨b, 3, none⟩ (.int .i64 x.dat)) :=
  ⟨(((h.set_ 0 _).set_ 1 _).set_ 2 _).set_ 3 _, RBut.trans_ _ _ _ _ (RBut.trans_ _ _ _ _ (RBut.trans_ _ _ _ _ (RBut.setC _ _ _ _) (RBut.setC _ _ _ _)) (RBut.setC _ _ _ _)) (RBut.setC _ _ _ _)⟩
theorem Sl.all4 {w : World} {b o n : Nat} {s : List Acc} (h : Sl w 4 (some ⟨b, o, none⟩) n (A4 s)) (i : Nat) (a : Acc) (hi : s[i]? = some a) :
    w.cell? ⟨b, o + i * 4, none⟩ = some (.int .i64 a.id) ∧ w.cell? ⟨b, o + i * 4 + 1, none⟩ = some (.int .i64 a.bal) ∧ w.cell? ⟨b, o + i * 4 + 2, none⟩ = some (.int .i64 a.non) ∧ w.cell? ⟨b, o + i * 4 + 3, none⟩ = some (.int .i64 a.dat) :=
  ⟨h.id4 i a hi, h.range4 i a hi 1 _ rfl, h.range4 i a hi 2 _ rfl, h.range4 i a hi 3 _ rfl⟩
set_option maxRecDepth 100000 in
set_option maxHeartbeats 2000000 in
theorem refGet_any (A : Option Addr) (n c : Nat) (s : List Acc) (i : Int) (w : World) (sl : Sl w 4 A n (A4 s)) (hlen : s.length = n) (hn : n ≤ 1099511627776) :
    Calls Try.prog 28 #[.slice A n c, .int .i64 i] w fun e w' => e = .returned (accV (getS s i)) ∧ Below w.heap.size w w' := by
  obtain ⟨W, HW, hbw, bz⟩ : ∃ W, Hid (W = w.alloc (.cells #[.int .i64 0, .int .i64 0, .int .i64 0, .int .i64 0] 23)) ∧ Below w.heap.size w W ∧ Blk W w.heap.size 23 (accC ⟨0, 0, 0, 0⟩) := ⟨_, rfl, (Below.refl _ _).alloc (Nat.le_refl _) _, Blk.new w #[.int .i64 0, .int .i64 0, .int .i64 0, .int .i64 0] 23⟩
  have slW := sl.to hbw
  have HLN := Lib.hid hlen
  clear sl hlen
  go_enter Try.func28, Try.ntmps28
  go_upto_region 1 with fail
  refine wp_at HW.out ?_
  clear HW
  go_wp2_with fail
  go_loop [5] (fun k => ∃ q : Nat, k = .int .i64 (q : Int) ∧ q ≤ n ∧ Hid (getS s i = getS (s.drop q) i)) (fun k => n - (intOf k).toNat)
  case atStart => exact ⟨0, rfl, Nat.zero_le _, rfl⟩
  case round =>
    obtain ⟨q, rfl, hq, hg⟩ := hrel
    by_cases hlt : q < n
    · have t1 : (q : Int) < (n : Int) := by omega
      obtain ⟨x, hx⟩ : ∃ x, s[q]? = some x := ⟨_, List.getElem?_eq_getElem (by rw [HLN.out]; exact hlt)⟩
      obtain ⟨b, o, rfl, hb⟩ := slW.some_ (by omega)
      obtain ⟨c0, c1, c2, c3⟩ := slW.all4 q x hx
      have HX := Lib.hid hx
      clear hx
      by_cases hxi : x.id = i
      · have HG : Hid (getS s i = x) := (show _ = _ by rw [hg.out, get_hit HX.out hxi])
        subst hxi
        obtain ⟨⟨f0, f1, f2, f3⟩, d0, d1, d2, d3⟩ := acc_cells bz
        go_wp2_with fail
        obtain ⟨bz1, bu1⟩ := acc_stored bz x
        refine bodyPost_ret (v := .agg (accC x).toArray) (results_blk Try.results28 rfl bz1 Try.underlying23 rfl info_acc) rfl ⟨by rw [HG.out]; rfl, hbw.trans (below_but bu1 (Nat.le_refl _) hbw.size)⟩
      · have t2 : (x.id == i) = false := by simpa using hxi
        have HG : Hid (getS s i = getS (s.drop (q + 1)) i) := (show _ = _ by rw [hg.out, get_drop HX.out hxi])
        go_wp2_with fail
        go_round
        case rel => exact ⟨q + 1, by go_num, by omega, HG⟩
        case measure => simp [intOf]; omega
    · have t1 : ¬ (q : Int) < (n : Int) := by omega
      have HG : Hid (getS s i = ⟨i, 0, 0, 0⟩) := (show _ = _ by rw [hg.out, List.drop_eq_nil_of_le (by rw [HLN.out]; omega)]; rfl)
      obtain ⟨⟨f0, f1, f2, f3⟩, d0, d1, d2, d3⟩ := acc_cells bz
      go_wp2_with fail
      obtain ⟨bz1, bu1⟩ := acc_stored bz ⟨i, 0, 0, 0⟩
      refine bodyPost_ret (v := .agg (accC ⟨i, 0, 0, 0⟩).toArray) (results_blk Try.results28 rfl bz1 Try.underlying23 rfl info_acc) rfl ⟨by rw [HG.out]; rfl, hbw.trans (below_but bu1 (Nat.le_refl _) hbw.size)⟩
end Go.Proofs.Ytakebmpnbdlcoaa
/- Walks: capstanref1.Int, Text, Hash. -/
set_option linter.unusedSimpArgs false
set_option linter.unusedVariables false
namespace Go.Proofs.Ytakebmpnbdlcoaa
open Go.RowKit
set_option maxRecDepth 100000

/-- A call that hands back what it appended to (A, n, c). -/
def ROnto (w : World) (B : Nat) (e : TypeId) (size : Nat) (A : Option Addr) (n c : Nat) (xs xs' : List Value) (en : Ending) (w' : World) : Prop :=
  ∃ A' n' c', en = .returned (.slice A' n' c') ∧ Onto w w' B e size A n c xs A' n' c' xs'

theorem or_128b (x : Nat) : bits .or .u8 ((x : Int) % 256) 128 = ((UInt8.ofNat (x % 128 + 128)).toNat : Int) := by
  have hx : x % 256 < 256 := Nat.mod_lt _ (by decide)
  have e := u8_or_nat (x % 256) 128 hx (by omega)
  have e2 : ∀ y, y < 256 → y ||| 128 = y % 128 + 128 := by decide +kernel
  rw [e2 _ hx] at e
  rw [show ((x : Int) % 256) = ((x % 256 : Nat) : Int) by omega, show (128 : Int) = ((128 : Nat) : Int) from rfl, e, UInt8.toNat_ofNat']
  omega
theorem max_u64 : IntKind.u64.max = 18446744073709551615 := rfl
theorem xor_all (x : Nat) (h : x < 18446744073709551616) : 18446744073709551615 ^^^ x = 18446744073709551615 - x := by
  have e := congrArg BitVec.toNat (BitVec.allOnes_xor (x := BitVec.ofNat 64 x))
  rw [BitVec.toNat_xor, BitVec.toNat_not, BitVec.toNat_allOnes, BitVec.toNat_ofNat] at e
  simp only [Nat.reducePow, Nat.add_one_sub_one] at e
  rw [Nat.mod_eq_of_lt h] at e
  exact e
theorem zig_xor (n : Int) (ha : -9223372036854775808 ≤ n) (h0 : n < 0) : bits .xor .u64 IntKind.u64.max (IntKind.u64.wrap (IntKind.u64.wrap n * 2)) = (zig n : Int) := by
  have e1 : IntKind.u64.wrap (IntKind.u64.wrap n * 2) = ((18446744073709551616 + 2 * n).toNat : Int) := by
    rw [show ∀ m, IntKind.u64.wrap m = m % 18446744073709551616 from fun m => by simp [IntKind.wrap, IntKind.bits, IntKind.signed]]
    rw [show ∀ m, IntKind.u64.wrap m = m % 18446744073709551616 from fun m => by simp [IntKind.wrap, IntKind.bits, IntKind.signed]]
    omega
  rw [e1, max_u64]
  have e := u64_xor_nat 18446744073709551615 (18446744073709551616 + 2 * n).toNat (by omega) (by omega)
  rw [xor_all _ (by omega)] at e
  rw [show (18446744073709551615 : Int) = ((18446744073709551615 : Nat) : Int) from rfl, e]
  unfold zig
  rw [if_pos h0]
  omega

theorem refInt_any (A : Option Addr) (l c B : Nat) (bs : List UInt8) (n : Int) (w : World) (hO : Own w B 5 1 A l c (B8 bs)) (hB : B ≤ w.heap.size) (hl : l ≤ 1099511627776) (ha : -9223372036854775808 ≤ n) (ha2 : n < 9223372036854775808) :
    Calls Try.prog 44 #[.slice A l c, .int .i64 n] w (ROnto w B 5 1 A l c (B8 bs) (B8 (bs ++ enc (zig n)))) := by
  have hz := zig_lt ha ha2
  have hle := enc_le hz
  go_enter Try.func44, Try.ntmps44
  have key : ∀ x : Int, x = (zig n : Int) → Hid (x = (zig n : Int)) := fun _ h => h
  by_cases h0 : n < 0
  all_goals
    first
      | (have X := key _ (zig_xor n ha h0)
         go_wp2_with fail
         rw [X.out])
      | (have X : Hid (n * 2 = (zig n : Int)) := (show n * 2 = (zig n : Int) by unfold zig; rw [if_neg h0]; omega)
         go_wp2_with fail
         rw [X.out])
    clear key X
    go_loopw [0, 5] (fun s u wr => ∃ (A' : Option Addr) (n' c' : Nat) (pre : List UInt8) (k : Nat), s = .slice A' n' c' ∧ u = .int .u64 (k : Int) ∧ k < 18446744073709551616 ∧
        pre ++ enc k = bs ++ enc (zig n) ∧ Onto w wr B 5 1 A l c (B8 bs) A' n' c' (B8 pre)) (fun _ u _ => (intOf u).toNat)
    case atStart => exact ⟨A, l, c, bs, zig n, rfl, rfl, hz, rfl, Onto.refl hO⟩
    case round =>
      obtain ⟨A', n', c', pre, k, rfl, rfl, hk, he, ho⟩ := hrel
      have hsz := ho.grow.size
      have hn' := ho.own.len8
      have hl8 := hO.len8
      have hlen : n' + (enc k).length ≤ l + 10 := by
        have := congrArg List.length he
        simp only [List.length_append] at this
        rw [← hn', ← hl8] at this
        omega
      have hpos := enc_pos k
      have HE := Lib.hid he
      have HK := Lib.hid hk
      clear hn' hl8 he hk hz hle ha ha2
      by_cases hlt : k < 128
      · have h1 := enc_lo hlt
        rw [h1] at HE
        clear h1
        have t1 : ¬ (128 : Int) ≤ (k : Int) := by omega
        have y1 : (k : Int) = ((UInt8.ofNat k).toNat : Int) := by rw [UInt8.toNat_ofNat']; omega
        have Y1 := Lib.hid y1
        clear y1
        go_wp2_with (first
          | (at_builtin
             refine wpl_push8 _ _ _ elB rfl rfl rfl ho.own rfl (UInt8.ofNat k) Y1.out (by omega) (by omega) ?_
             intro A2 c2 w2 ho2 hb2 g2 _))
        go_ret
        have g3 := (ho.alloc _).step (by rw [B8_app] at g2; exact g2) (by omega)
        rw [← B8_app, HE.out] at g3
        exact ⟨A2, n' + 1, c2, rfl, g3⟩
      · have h1 := enc_hi hlt
        rw [h1] at HE
        clear h1
        have t1 : (128 : Int) ≤ (k : Int) := by omega
        have Y1 := Lib.hid (or_128b k)
        go_wp2_with (first
          | (at_builtin
             refine wpl_push8 _ _ _ elB rfl rfl rfl ho.own rfl (UInt8.ofNat (k % 128 + 128)) Y1.out (by omega) (by omega) ?_
             intro A2 c2 w2 ho2 hb2 g2 _))
        have g3 := (ho.alloc _).step (by rw [B8_app] at g2; exact g2) (by omega)
        rw [← B8_app] at g3
        go_roundw
        case rel => exact ⟨A2, _, c2, _, k / 128, rfl, by go_num, by have := HK.out; omega, by rw [← HE.out]; simp, g3⟩
        case measure => simp [intOf]; omega
end Go.Proofs.Ytakebmpnbdlcoaa
/- Walks: an account's sum, the document's (capstanref7.Leaf). -/
set_option linter.unusedSimpArgs false
set_option linter.unusedVariables false
namespace Go.Proofs.Ytakebmpnbdlcoaa
open Go.RowKit
set_option maxRecDepth 100000
/-- a block is as it was -/
def RKeep (N : Nat) (w w' : World) : Prop := w'.heap[N]? = w.heap[N]?
theorem RKeep.refl_ (N : Nat) (w : World) : RKeep N w w := rfl
theorem RKeep.trans_ (N : Nat) (a b c : World) (h : RKeep N a b) (k : RKeep N b c) : RKeep N a c := k.trans h
set_option maxRecDepth 100000 in
set_option maxHeartbeats 4000000 in
theorem refLeaf_any (a : Acc) (hw : a.wf) (w : World) : Calls Try.prog 18 #[accV a] w fun e w' => e = .returned (hv (leafS a)) ∧ Below w.heap.size w w' := by
  unfold accV
  obtain ⟨W, HW, hbw, ba, bz⟩ := box_acc w a
  have c1 : W.cell? ⟨w.heap.size, 1, none⟩ = some (.int .i64 a.bal) := by rw [ba.cell]; rfl
  have c2 : W.cell? ⟨w.heap.size, 2, none⟩ = some (.int .i64 a.non) := by rw [ba.cell]; rfl
  have c3 : W.cell? ⟨w.heap.size, 3, none⟩ = some (.int .i64 a.dat) := by rw [ba.cell]; rfl
  have HWF := Lib.hid hw
  clear hw
  by_cases hn : a.none
  · have HL : Hid (leafS a = zero32) := (show _ = _ by unfold leafS; rw [if_pos hn])
    obtain ⟨h1, h2, h3⟩ := hn
    rw [h1] at c1
    rw [h2] at c2
    rw [h3] at c3
    clear h1 h2 h3
    go_enter Try.func18, Try.ntmps18
    go_upto_region 1 with fail
    refine wp_at HW.out ?_
    clear HW
    go_wp2_with (first
      | (refine wpl_build (by rfl) _ _ rfl _ built_zero_ ?_)
      | (refine wpl_store_fld (by rfl) _ _ _ rfl (w.heap.size + 1) 0 _ _ (B8 zero32) rfl _ rfl rfl bz (by decide) (info_hash rfl) (B8_one _) ?_
         intro w1 bz1 bu1
         rw [put_all _ _ rfl] at bz1))
    refine bodyPost_ret (v := .agg (B8 (leafS a)).toArray) ?_ rfl ⟨rfl, hbw.trans (below_but bu1 (by omega) hbw.size)⟩
    rw [HL.out]
    exact results_blk Try.results18 rfl bz1 Try.underlying27 rfl (info_hash rfl)
  · have HL : Hid (leafS a = shaS ([0] ++ enc (zig a.id) ++ enc (zig a.bal) ++ enc (zig a.non) ++ enc (zig a.dat))) := (show _ = _ by unfold leafS; rw [if_neg hn])
    have hc : (a.bal == 0) = false ∨ a.bal = 0 ∧ (a.non == 0) = false ∨ a.bal = 0 ∧ a.non = 0 ∧ (a.dat == 0) = false := by
      by_cases h1 : a.bal = 0
      · by_cases h2 : a.non = 0
        · by_cases h3 : a.dat = 0
          · exact absurd ⟨h1, h2, h3⟩ hn
          · exact .inr (.inr ⟨h1, h2, by simpa using h3⟩)
        · exact .inr (.inl ⟨h1, by simpa using h2⟩)
      · exact .inl (by simpa using h1)
    clear hn
    go_enter Try.func18, Try.ntmps18
    go_upto_region 1 with fail
    refine wp_at HW.out ?_
    clear HW
    rcases hc with h1 | ⟨h1, h2⟩ | ⟨h1, h2, h3⟩
    all_goals
      go_wp2_with fail
      clear h1
      try clear h2
      try clear h3
      refine wp_region_C [(1, true), (2, true), (4, true), (5, true), (7, true), (8, true), (10, true), (11, true), (0, false), (3, false), (6, false), (9, false), (12, false), (13, false), (14, false)] (RKeep w.heap.size) (by kernel_rfl) (by kernel_rfl) (by kernel_rfl) (by decide) (RKeep.refl_ _) (RKeep.trans_ _) (by intro d v c a w h; cases d <;> exact h) ?_
      have ba' : Blk W.drew w.heap.size 23 (accC a) := ba
      have bz' : Blk W.drew (w.heap.size + 1) 27 (B8 zero32) := bz
      have hbw' : Below w.heap.size w W.drew := hbw.drew
      clear ba bz hbw c1 c2 c3
      generalize W.drew = V at *
      have c0 : ∀ w', RKeep w.heap.size V w' → w'.cell? ⟨w.heap.size, 0, none⟩ = some (.int .i64 a.id) := fun w' h => by rw [(ba'.keep h).cell]; rfl
      have c1 : ∀ w', RKeep w.heap.size V w' → w'.cell? ⟨w.heap.size, 1, none⟩ = some (.int .i64 a.bal) := fun w' h => by rw [(ba'.keep h).cell]; rfl
      have c2 : ∀ w', RKeep w.heap.size V w' → w'.cell? ⟨w.heap.size, 2, none⟩ = some (.int .i64 a.non) := fun w' h => by rw [(ba'.keep h).cell]; rfl
      have c3 : ∀ w', RKeep w.heap.size V w' → w'.cell? ⟨w.heap.size, 3, none⟩ = some (.int .i64 a.dat) := fun w' h => by rw [(ba'.keep h).cell]; rfl
      have hN : w.heap.size < V.heap.size := ba'.lt
      have hN1 : w.heap.size + 1 < V.heap.size := bz'.lt
      repeat (first | (refine wpC_quiet (v := ?_) rfl (by rfl) ?_ ?_; rotate_left; (· (intro w' hw'; go_simp; try with_reducible rfl)); simp only [Act.put, List.setIfInBounds_toArray, List.set_cons_zero, List.set_cons_succ]) | (refine wpC_val (v := ?_) (RKeep.refl_ _) rfl (by rfl) ?_ ?_; rotate_left; (· (go_simp; try with_reducible rfl)); simp only [Act.put, List.setIfInBounds_toArray, List.set_cons_zero, List.set_cons_succ]) | (refine wpC_skip rfl (by rfl) ?_; simp only [Act.put, List.setIfInBounds_toArray, List.set_cons_zero, List.set_cons_succ]) | (refine wpC_skip' (RKeep.refl_ _) rfl (by rfl) ?_; simp only [Act.put, List.setIfInBounds_toArray, List.set_cons_zero, List.set_cons_succ]))
      clear c0 c1 c2 c3
      have h0 : Below V.heap.size V (V.alloc (.cells #[.int .u8 0] 5)) := (Below.refl _ _).alloc (Nat.le_refl _) _
      have o0 : Own (V.alloc (.cells #[.int .u8 0] 5)) V.heap.size 5 1 (some ⟨V.heap.size, 0, none⟩) 1 1 (B8 [0]) := Own.made V V.heap.size 5 #[.int .u8 0] (Nat.le_refl _) (by decide) rfl
      have e1 := enc_le (zig_lt HWF.out.id.1 HWF.out.id.2)
      have e2 := enc_le (zig_lt HWF.out.bal.1 HWF.out.bal.2)
      have e3 := enc_le (zig_lt HWF.out.non.1 HWF.out.non.2)
      have e4 := enc_le (zig_lt HWF.out.dat.1 HWF.out.dat.2)
      (refine wpC_loud rfl (by rfl) ?_; intro K hK; go_simp)
      (refine hK.out _ _ ((h0.block _ hN)) ?_; clear hK K; try simp only [Act.put, List.setIfInBounds_toArray, List.set_cons_zero, List.set_cons_succ])
      obtain ⟨pb, hpb⟩ : ∃ p, p = V.heap.size := ⟨_, rfl⟩
      rw [show Value.slice (some ⟨V.heap.size, 0, none⟩) 1 1 = Value.slice (some ⟨pb, 0, none⟩) 1 1 from by rw [hpb]]
      rw [show (some (⟨V.heap.size, 0, none⟩ : Addr)) = some ⟨pb, 0, none⟩ from by rw [hpb]] at o0
      clear hpb
      generalize V.alloc (.cells #[.int .u8 0] 5) = V1 at *
      have hs0 := h0.size
      (refine wpC_loud rfl (by rfl) ?_; intro K hK; go_simp)
      refine (refInt_any _ 1 1 V.heap.size [0] a.id V1 o0 hs0 (by omega) HWF.out.id.1 HWF.out.id.2).mono ?_
      rintro e V2 ⟨A2, n2, d2, rfl, g2⟩
      have b2 := g2.bel hs0
      have o2 := g2.own
      have l2 : n2 ≤ 11 := by have := o2.len8; rw [List.length_append] at this; simp at this; omega
      (refine hK.out _ _ ((b2.block _ hN)) ?_; clear hK K; try simp only [Act.put, List.setIfInBounds_toArray, List.set_cons_zero, List.set_cons_succ])
      have f2 := h0.trans b2
      clear g2 o0 b2 h0
      (refine wpC_loud rfl (by rfl) ?_; intro K hK; go_simp)
      refine (refInt_any A2 n2 d2 V.heap.size _ a.bal V2 o2 f2.size (by omega) HWF.out.bal.1 HWF.out.bal.2).mono ?_
      rintro e V3 ⟨A3, n3, d3, rfl, g3⟩
      have b3 := g3.bel f2.size
      have o3 := g3.own
      have l3 : n3 ≤ 21 := by have h9 := o3.len8; rw [List.length_append, ← o2.len8] at h9; omega
      (refine hK.out _ _ ((b3.block _ hN)) ?_; clear hK K; try simp only [Act.put, List.setIfInBounds_toArray, List.set_cons_zero, List.set_cons_succ])
      have f3 := f2.trans b3
      clear g3 o2 b3 f2
      (refine wpC_loud rfl (by rfl) ?_; intro K hK; go_simp)
      refine (refInt_any A3 n3 d3 V.heap.size _ a.non V3 o3 f3.size (by omega) HWF.out.non.1 HWF.out.non.2).mono ?_
      rintro e V4 ⟨A4', n4, d4, rfl, g4⟩
      have b4 := g4.bel f3.size
      have o4 := g4.own
      have l4 : n4 ≤ 31 := by have h9 := o4.len8; rw [List.length_append, ← o3.len8] at h9; omega
      (refine hK.out _ _ ((b4.block _ hN)) ?_; clear hK K; try simp only [Act.put, List.setIfInBounds_toArray, List.set_cons_zero, List.set_cons_succ])
      have f4 := f3.trans b4
      clear g4 o3 b4 f3
      (refine wpC_loud rfl (by rfl) ?_; intro K hK; go_simp)
      refine (refInt_any A4' n4 d4 V.heap.size _ a.dat V4 o4 f4.size (by omega) HWF.out.dat.1 HWF.out.dat.2).mono ?_
      rintro e V5 ⟨A5, n5, d5, rfl, g5⟩
      have b5 := g5.bel f4.size
      have o5 := g5.own
      have l5 : n5 ≤ 41 := by have h9 := o5.len8; rw [List.length_append, ← o4.len8] at h9; omega
      (refine hK.out _ _ ((b5.block _ hN)) ?_; clear hK K; try simp only [Act.put, List.setIfInBounds_toArray, List.set_cons_zero, List.set_cons_succ])
      have f5 := f4.trans b5
      clear g5 o4 b5 f4
      (refine wpC_loud rfl (by rfl) ?_; intro K hK; go_simp)
      refine (refSum_any A5 n5 d5 _ V5 o5.sl (by omega)).mono ?_
      rintro e V6 ⟨rfl, h6⟩
      have HS := Lib.hid (leafS_len a)
      rw [← HL.out]
      unfold hv
      (refine hK.out _ _ ((h6.block _ (Nat.lt_of_lt_of_le hN f5.size))) ?_; clear hK K; try simp only [Act.put, List.setIfInBounds_toArray, List.set_cons_zero, List.set_cons_succ])
      have f6 := f5.trans (h6.mono f5.size)
      have bz6 := bz'.to f6
      have fin := hbw'.trans (f6.mono (Nat.le_of_lt hN))
      clear o5 f5 h6 f6
      refine wpC_store_blk rfl (by rfl) _ _ _ rfl (w.heap.size + 1) 27 (B8 zero32) (B8 (leafS a)) rfl rfl bz6 (by rw [B8_len, B8_len, HS.out]; rfl) (info_hash HS.out) (B8_one _) (fun w' h => h.block _ (by have := bz6.lt; omega) (by intro e; injection e; omega)) ?_
      intro V7 b7 u7
      simp only [Act.put, List.setIfInBounds_toArray, List.set_cons_zero, List.set_cons_succ]
      refine wpC_nil ?_
      go_wp2_with fail
      refine bodyPost_ret (v := .agg (B8 (leafS a)).toArray) ?_ rfl ⟨rfl, fin.trans (below_but u7 (by omega) fin.size)⟩
      exact results_blk Try.results18 rfl b7 Try.underlying27 rfl (info_hash HS.out)
end Go.Proofs.Ytakebmpnbdlcoaa
/- Walks: the document's leaves of a state, its root. -/
set_option linter.unusedSimpArgs false
set_option linter.unusedVariables false
namespace Go.Proofs.Ytakebmpnbdlcoaa
open Go.RowKit
set_option maxRecDepth 100000
theorem fold_take {s : List Acc} {q : Nat} {x : Acc} {l : List (List UInt8)} (h : s[q]? = some x) : (s.take (q + 1)).foldl setL l = setL ((s.take q).foldl setL l) x := by
  rw [List.take_add_one, h, List.foldl_append]
  rfl
theorem own_of_row {w : World} {g : Nat} {e : TypeId} {size n c B : Nat} {xs rest : List Value} (bk : Blk w g e (xs ++ rest)) (hx : xs.length = n * size) (hl : (xs ++ rest).length = c * size) (hB : B ≤ g) (hnc : n ≤ c) (hc : c ≤ maxLen) : Own w B e size (some ⟨g, 0, none⟩) n c xs :=
  ⟨hx, .inr ⟨g, c, (xs ++ rest).toArray, rfl, hB, bk, hnc, hc, by simpa using hl, by simp [← hx]⟩⟩
set_option maxRecDepth 100000 in
set_option maxHeartbeats 4000000 in
theorem leaves_any (A : Option Addr) (n c : Nat) (s : List Acc) (w : World) (sl : Sl w 4 A n (A4 s)) (hlen : s.length = n) (hn : n ≤ 1099511627776) (hwf : ∀ x ∈ s, x.wf) :
    Calls Try.prog 47 #[.slice A n c] w (RSl w 27 32 (H8 (leavesL s))) := by
  obtain ⟨i, hi, hz0, hz1, hz2⟩ := info_parts (P := Try.prog) (e := 27) (z := .agg #[.int .u8 0, .int .u8 0, .int .u8 0, .int .u8 0, .int .u8 0, .int .u8 0, .int .u8 0, .int .u8 0, .int .u8 0, .int .u8 0, .int .u8 0, .int .u8 0, .int .u8 0, .int .u8 0, .int .u8 0, .int .u8 0, .int .u8 0, .int .u8 0, .int .u8 0, .int .u8 0, .int .u8 0, .int .u8 0, .int .u8 0, .int .u8 0, .int .u8 0, .int .u8 0, .int .u8 0, .int .u8 0, .int .u8 0, .int .u8 0, .int .u8 0, .int .u8 0]) (size := 32) (bytes := 32) (by kernel_rfl)
  have hi' := Lib.hid hi
  have hz0' := Lib.hid hz0
  have hz1' := Lib.hid hz1
  have hz2' := Lib.hid hz2
  have HLN := Lib.hid hlen
  have HWF := Lib.hid hwf
  clear hi hz0 hz1 hz2 hlen hwf
  go_enter Try.func47, Try.ntmps47
  go_wp2_with (first
    | (at_make
       refine wpList_make_full _ rfl _ _ _ rfl w.heap.size _ i _ 32 Try.underlying52 hi'.out hz0'.out hz1'.out _ _ 256 256 256 rfl rfl rfl rfl (by rw [hz2'.out]; decide) (by decide) (Nat.le_refl _) ?_
       intro w1 ho1 hg1))
  rw [rep_made] at ho1
  have ho : Own w1 w.heap.size 27 32 (some ⟨w.heap.size, 0, none⟩) 256 256 (H8 (List.replicate 256 zero32)) := ho1
  have hb : Below w.heap.size w w1 := ⟨hg1.os, hg1.tape, hg1.output, hg1.size, fun k hk => hg1.block k hk (by simp)⟩
  clear ho1 hg1 hi' hz0' hz1' hz2'
  obtain ⟨g, rest, hge, hg, bk, hrl⟩ := own_row ho (by decide)
  have hgw : g = w.heap.size := by injection hge with h; injection h with h; exact h.symm
  subst hgw
  have HRL := Lib.hid hrl
  have sl1 := sl.to hb
  have hg1 := bk.lt
  clear ho hge hg hrl
  go_loopw [4] (fun k wr => ∃ q : Nat, k = .int .i64 (q : Int) ∧ q ≤ n ∧ Blk wr w.heap.size 27 (H8 ((s.take q).foldl setL (List.replicate 256 zero32)) ++ rest) ∧ RBut (some w.heap.size) w1 wr) (fun k _ => n - (intOf k).toNat)
  case atStart => exact ⟨0, rfl, Nat.zero_le _, bk, RBut.refl_ _ _⟩
  case round =>
    clear bk
    obtain ⟨q, rfl, hq, bk, hbu⟩ := hrel
    have HCL : Hid (((s.take q).foldl setL (List.replicate 256 zero32)).length = 256) := (show _ = _ by rw [fold_len, List.length_replicate])
    have HCA : Hid (∀ x ∈ (s.take q).foldl setL (List.replicate 256 zero32), x.length = 32) := fold_all _ _ (by intro x hx; rw [List.eq_of_mem_replicate hx]; rfl)
    have hsz := hbu.size
    by_cases hlt : q < n
    · have t1 : (q : Int) < (n : Int) := by omega
      obtain ⟨x, hx⟩ : ∃ x, s[q]? = some x := ⟨_, List.getElem?_eq_getElem (by rw [HLN.out]; exact hlt)⟩
      have hxw := HWF.out x (List.mem_of_getElem? hx)
      have HFT := Lib.hid (fold_take (l := List.replicate 256 zero32) hx)
      obtain ⟨b, o, rfl, hbb⟩ := sl.some_ (by omega)
      have slr : Sl wr 4 (some ⟨b, o, none⟩) n (A4 s) := sl1.but hbu (by intro e; injection e; omega)
      have cx := slr.id4 q x hx
      have rx := slr.range4 q x hx
      have HX := Lib.hid hx
      clear hx
      generalize (s.take q).foldl setL (List.replicate 256 zero32) = cur at *
      by_cases hin : 0 ≤ x.id ∧ x.id < 256
      · obtain ⟨k, hk⟩ : ∃ k : Nat, x.id = (k : Int) := ⟨x.id.toNat, by omega⟩
        have hk256 : k < 256 := by omega
        have HS : Hid (setL cur x = cur.set k (leafS x)) := (show _ = _ by unfold setL; rw [if_pos hin, hk]; rfl)
        have HXW := Lib.hid hxw
        have HK := Lib.hid hk
        rw [hk] at cx
        have i1 : 0 ≤ (k : Int) := by omega
        have i2 : (k : Int) < 256 := by omega
        have HP := Lib.hid (put_H8 cur rest k (leafS x) HCA.out (leafS_len x) (by rw [HCL.out]; exact hk256))
        have HLEN : Hid (k * 32 + 32 ≤ (H8 cur ++ rest).length) := (show _ ≤ _ by rw [List.length_append, H8_len cur HCA.out, HCL.out]; omega)
        clear hin hxw hk
        go_wp2_with fail
        refine wp_region_C [(0, true), (1, true), (2, true), (3, true), (4, true), (5, true), (6, true), (7, true), (8, true), (9, true), (10, false), (11, false), (12, false)] (RBut (some w.heap.size)) (by kernel_rfl) (by kernel_rfl) (by kernel_rfl) (by decide) (RBut.refl_ _) (RBut.trans_ _) (by intro d v c a w h; cases d <;> exact h) ?_
        have bk' : Blk wr.drew w.heap.size 27 (H8 cur ++ rest) := bk
        have slv : Sl wr.drew 4 (some ⟨b, o, none⟩) n (A4 s) := slr.drew
        have hbu' : RBut (some w.heap.size) w1 wr.drew := RBut.trans_ _ _ _ _ hbu (RBut.of_below (Below.refl _ _).drew)
        have hne : some b ≠ some w.heap.size := by intro e; injection e; omega
        have hVs : wr.heap.size = wr.drew.heap.size := rfl
        rw [hVs] at hsz
        clear bk slr hbu cx rx hVs
        generalize wr.drew = V at *
        have cx : ∀ w', RBut (some w.heap.size) V w' → w'.cell? ⟨b, o + q * 4, none⟩ = some (.int .i64 (k : Int)) := fun w' h => by rw [← HK.out]; exact (slv.but h hne).id4 q x HX.out
        repeat (first | (refine wpC_quiet (v := ?_) rfl (by rfl) ?_ ?_; rotate_left; (· (intro w' hw'; go_simp; try with_reducible rfl)); simp only [Act.put, List.setIfInBounds_toArray, List.set_cons_zero, List.set_cons_succ]) | (refine wpC_val (v := ?_) (RBut.refl_ _) rfl (by rfl) ?_ ?_; rotate_left; (· (go_simp; try with_reducible rfl)); simp only [Act.put, List.setIfInBounds_toArray, List.set_cons_zero, List.set_cons_succ]) | (refine wpC_skip rfl (by rfl) ?_; simp only [Act.put, List.setIfInBounds_toArray, List.set_cons_zero, List.set_cons_succ]) | (refine wpC_skip' (RBut.refl_ _) rfl (by rfl) ?_; simp only [Act.put, List.setIfInBounds_toArray, List.set_cons_zero, List.set_cons_succ]))
        refine wpC_load rfl (by rfl) _ _ rfl b (o + q * 4) rfl (accC x) _ (fun w' h => (slv.but h hne).range4 q x HX.out) Try.underlying23 rfl info_acc ?_
        simp only [Act.put, List.setIfInBounds_toArray, List.set_cons_zero, List.set_cons_succ]
        clear cx
        (refine wpC_loud rfl (by rfl) ?_; intro K hK; go_simp)
        refine (refLeaf_any x HXW.out _).mono ?_
        rintro e V2 ⟨rfl, h2⟩
        have bk2 := bk'.to h2
        have hV2 := h2.size
        unfold hv
        (refine hK.out _ _ (RBut.of_below h2) ?_; clear hK K; try simp only [Act.put, List.setIfInBounds_toArray, List.set_cons_zero, List.set_cons_succ])
        repeat (first | (refine wpC_quiet (v := ?_) rfl (by rfl) ?_ ?_; rotate_left; (· (intro w' hw'; go_simp; try with_reducible rfl)); simp only [Act.put, List.setIfInBounds_toArray, List.set_cons_zero, List.set_cons_succ]) | (refine wpC_val (v := ?_) (RBut.refl_ _) rfl (by rfl) ?_ ?_; rotate_left; (· (go_simp; try with_reducible rfl)); simp only [Act.put, List.setIfInBounds_toArray, List.set_cons_zero, List.set_cons_succ]) | (refine wpC_skip rfl (by rfl) ?_; simp only [Act.put, List.setIfInBounds_toArray, List.set_cons_zero, List.set_cons_succ]) | (refine wpC_skip' (RBut.refl_ _) rfl (by rfl) ?_; simp only [Act.put, List.setIfInBounds_toArray, List.set_cons_zero, List.set_cons_succ]))
        refine wpC_store_fld rfl (by rfl) _ _ _ rfl w.heap.size (k * 32) _ _ (B8 (leafS x)) rfl _ rfl rfl bk2 (by rw [B8_len, leafS_len]; exact HLEN.out) (info_hash (leafS_len x)) (B8_one _) (fun _ h => h) ?_
        intro V3 bk3 bu3
        rw [HP.out] at bk3
        have hbu3 := RBut.trans_ _ _ _ _ hbu' (RBut.trans_ _ _ _ _ (RBut.of_below h2) bu3)
        simp only [Act.put, List.setIfInBounds_toArray, List.set_cons_zero, List.set_cons_succ]
        refine wpC_nil ?_
        go_wp2_with fail
        go_roundw
        case rel => exact ⟨q + 1, by go_num, by omega, by rw [HFT.out, HS.out]; exact bk3, hbu3⟩
        case measure => simp [intOf]; omega
      · have HS : Hid (setL cur x = cur) := (show _ = _ by unfold setL; rw [if_neg hin])
        rw [HS.out] at HFT
        have hc : x.id < 0 ∨ 0 ≤ x.id ∧ ¬ x.id < 256 := by omega
        clear hin
        rcases hc with h1 | ⟨h1, h2⟩
        all_goals
          go_wp2_with fail
          go_roundw
          case rel => exact ⟨q + 1, by go_num, by omega, by rw [HFT.out]; exact bk, hbu⟩
          case measure => simp [intOf]; omega
    · have t1 : ¬ (q : Int) < (n : Int) := by omega
      go_wp2_with fail
      go_ret
      have e : s.take q = s := List.take_of_length_le (by rw [HLN.out]; omega)
      rw [e] at bk HCL HCA
      change Blk wr _ _ (H8 (leavesL s) ++ rest) at bk
      have h1 := HRL.out
      rw [List.length_append, H8_len _ (by intro x hx; rw [List.eq_of_mem_replicate hx]; rfl), List.length_replicate] at h1
      refine RSl.mk (own_of_row bk (by rw [H8_len _ (leavesL_all s), leavesL_len]) ?_ (Nat.le_refl _) (Nat.le_refl _) (by decide)) (hb.trans ?_)
      · rw [List.length_append, H8_len _ (leavesL_all s), leavesL_len]
        exact h1
      · exact below_but hbu (Nat.le_refl _) hb.size
end Go.Proofs.Ytakebmpnbdlcoaa
/- Walks: tree.grow: all sums that are not noughts. -/
set_option linter.unusedSimpArgs false
set_option linter.unusedVariables false
namespace Go.Proofs.Ytakebmpnbdlcoaa
open Go.RowKit
set_option maxRecDepth 100000
open Go.Maps (Keyed)
/-- all leaves of some accounts, as a function of places -/
def rowF (l : List (List UInt8)) (x : Nat) : List UInt8 := l.getD x zero32
theorem rep_zero : List.replicate 32 (0 : UInt8) = zero32 := rfl
theorem rowF_start : rowF (List.replicate 256 zero32) = fun _ => List.replicate 32 0 := by
  funext x
  unfold rowF
  rw [List.getD_eq_getElem?_getD, List.getElem?_replicate]
  split <;> rfl
theorem rowF_set (l : List (List UInt8)) (k : Nat) (x : List UInt8) (h : k < l.length) : (fun y => if y = k then x else rowF l y) = rowF (l.set k x) := by
  funext y
  unfold rowF
  rw [List.getD_eq_getElem?_getD, List.getD_eq_getElem?_getD, List.getElem?_set]
  by_cases hy : y = k
  · subst hy
    rw [if_pos rfl, if_pos rfl, if_pos h]
    rfl
  · rw [if_neg hy, if_neg (Ne.symm hy)]
/-- all sums of the levels below lv -/
def levM (L : List (List UInt8)) (lv : Nat) (p : Nat × Nat) : List UInt8 := if p.1 < lv then levF L p.1 p.2 else zero32
/-- .. and some of level lv -/
def midM (L : List (List UInt8)) (lv : Nat) (g : Nat → List UInt8) (p : Nat × Nat) : List UInt8 := if p.1 < lv then levF L p.1 p.2 else if p.1 = lv then g p.2 else zero32
theorem levM_zero (L : List (List UInt8)) : levM L 0 = fun _ => List.replicate 32 0 := by
  funext p
  unfold levM
  rw [if_neg (by omega)]
  rfl
theorem midM_start (L : List (List UInt8)) (lv : Nat) : levM L lv = midM L lv (fun _ => zero32) := by
  funext p
  unfold levM midM
  split
  · rfl
  · split <;> rfl
theorem midM_end (L : List (List UInt8)) (lv : Nat) : midM L lv (levF L lv) = levM L (lv + 1) := by
  funext p
  unfold levM midM
  by_cases h : p.1 < lv
  · rw [if_pos h, if_pos (by omega)]
  · rw [if_neg h]
    by_cases h2 : p.1 = lv
    · rw [if_pos h2, if_pos (by omega), h2]
    · rw [if_neg h2, if_neg (by omega)]
theorem midM_put (L : List (List UInt8)) (lv x : Nat) (g f : Nat → List UInt8) : (fun y => if y = (lv, x) then f x else midM L lv g y) = midM L lv (fun c => if c = x then f c else g c) := by
  funext p
  obtain ⟨a, c⟩ := p
  unfold midM
  simp only [Prod.mk.injEq]
  by_cases h : a = lv
  · subst h
    by_cases hc : c = x
    · subst hc
      simp
    · simp [hc]
  · simp [h]
/-- the rows, one level after another -/
def rowL (L : List (List UInt8)) : Nat → Nat → List UInt8
  | 0 => levF L 0
  | k + 1 => upF (rowL L k)
theorem rowL_lev (L : List (List UInt8)) (hL : L.length = 256) : ∀ lv, lv ≤ 8 → rowL L lv = levF L lv
  | 0, _ => rfl
  | k + 1, h => by
    show upF (rowL L k) = _
    rw [rowL_lev L hL k (by omega), levF_up L k (7 - k) (by rw [hL, show k + (7 - k) + 1 = 8 from by omega])]
theorem Row.none {w : World} {b n : Nat} {D : DataW Unit} {f : Nat → List UInt8} {N c : Nat} (h : Row w b n D f N) (hc : c < 9223372036854775808) (hn : ¬ Maps.has D (.int .i64 (c : Int)) = true) : f c = zero32 := by
  have h1 := h.1.2 c _ (keyOf_ik hc)
  rw [Maps.atKey_of_not_has (by simpa using hn)] at h1
  unfold Z32d at h1
  injection h1 with h1
  injection h1 with h1
  exact h1.symm
theorem levF_far (L : List (List UInt8)) (lv c : Nat) (hL : L.length = 256) (hl : lv ≤ 8) (hc : 256 ≤ c) : levF L lv c = zero32 := by
  have hlen := lev_len lv (8 - lv) L (by rw [hL, show lv + (8 - lv) = 8 from by omega])
  have h2 : 2 ^ (8 - lv) ≤ 256 := by
    have := Nat.pow_le_pow_right (show 0 < 2 by omega) (show 8 - lv ≤ 8 by omega)
    simpa using this
  unfold levF
  rw [List.getD_eq_getElem?_getD, List.getElem?_eq_none (by omega)]
  rfl
theorem Row.size {w : World} {b n : Nat} {D : DataW Unit} {f : Nat → List UInt8} {N : Nat} (h : Row w b n D f N) : Maps.size D ≤ n := by
  obtain ⟨es, clock, hb, F, hs, hD⟩ := h.1.1
  subst hD
  show ((es.toList.map (Go.WideElems.rg Try.prog 3 HR)).foldr DataW.insert []).length ≤ n
  rw [length_sorted]
  simpa using hs
set_option maxRecDepth 100000 in
set_option maxHeartbeats 8000000 in
theorem grow_any (A : Option Addr) (n c : Nat) (s : List Acc) (w : World) (sl : Sl w 4 A n (A4 s)) (hlen : s.length = n) (hn : n ≤ 1099511627776) (hwf : ∀ x ∈ s, x.wf) :
    Calls Try.prog 46 #[.slice A n c] w fun e w' => ∃ b m D, e = .returned (.map (some b)) ∧ w.heap.size ≤ b ∧ MapF Try.prog 74 pk w' b m D (fun p => if p.1 ≤ 8 then levF (leavesL s) p.1 p.2 else zero32) ∧ Below w.heap.size w w' := by
  have hmm := @run_makeMap Try.prog
  have HLN := Lib.hid hlen
  have HWF := Lib.hid hwf
  clear hlen hwf
  go_enter Try.func46, Try.ntmps46
  go_wp2_with fail
  have m0 : MapF Try.prog 74 pk (w.alloc (.map #[] 0)) w.heap.size 0 (.map []) (fun _ => List.replicate 32 0) := MapF.new w _ _
  obtain ⟨W, hW, mW, rW, hbW⟩ : ∃ W, W = (w.alloc (.map #[] 0)).alloc (.map #[] 0) ∧ MapF Try.prog 74 pk W w.heap.size 0 (.map []) (fun _ => List.replicate 32 0) ∧ Row W (w.heap.size + 1) 0 (.map []) (rowF (List.replicate 256 zero32)) 256 ∧ Below w.heap.size w W := by
    refine ⟨_, rfl, m0.kept (World.grownBy_alloc _ _ none) (by simp), ?_, ((Below.refl _ _).alloc (Nat.le_refl _) _).alloc (by simp) _⟩
    rw [rowF_start]
    have := Row.new (w.alloc (.map #[] 0)) 256
    simpa using this
  rw [← hW]
  clear m0 hW
  go_loopw [16] (fun k wr => ∃ (q m : Nat) (D : DataW Unit), k = .int .i64 (q : Int) ∧ q ≤ n ∧ m ≤ q ∧ Row wr (w.heap.size + 1) m D (rowF ((s.take q).foldl setL (List.replicate 256 zero32))) 256 ∧ MapF Try.prog 74 pk wr w.heap.size 0 (.map []) (fun _ => List.replicate 32 0) ∧ Below w.heap.size w wr) (fun k _ => n - (intOf k).toNat)
  case atStart => exact ⟨0, 0, .map [], rfl, Nat.zero_le _, Nat.le_refl _, rW, mW, hbW⟩
  case round =>
    clear rW mW hbW
    obtain ⟨q, m, D, rfl, hq, hm, hr, hm0, hb⟩ := hrel
    by_cases hlt : q < n
    · have t1 : (q : Int) < (n : Int) := by omega
      obtain ⟨x, hx⟩ : ∃ x, s[q]? = some x := ⟨_, List.getElem?_eq_getElem (by rw [HLN.out]; exact hlt)⟩
      obtain ⟨b, o, rfl, hbb⟩ := sl.some_ (by omega)
      have slr := sl.to hb
      obtain ⟨c0, c1, c2, c3⟩ := slr.all4 q x hx
      have HX := Lib.hid hx
      have HXW := Lib.hid (HWF.out x (List.mem_of_getElem? hx))
      clear hx
      have bx : Blk (wr.alloc (.cells #[.int .i64 x.id, .int .i64 x.bal, .int .i64 x.non, .int .i64 x.dat] 23)) wr.heap.size 23 (accC x) := Blk.new wr _ _
      have hal : Below wr.heap.size wr (wr.alloc (.cells #[.int .i64 x.id, .int .i64 x.bal, .int .i64 x.non, .int .i64 x.dat] 23)) := (Below.refl _ _).alloc (Nat.le_refl _) _
      have hr1 := hr.kept (World.grownBy_alloc wr (.cells #[.int .i64 x.id, .int .i64 x.bal, .int .i64 x.non, .int .i64 x.dat] 23) none) (by simp)
      have hm1 := hm0.kept (World.grownBy_alloc wr (.cells #[.int .i64 x.id, .int .i64 x.bal, .int .i64 x.non, .int .i64 x.dat] 23) none) (by simp)
      have hb1 := hb.trans (hal.mono hb.size)
      have hrl := hr.lt
      have hbs := hb.size
      have HFT := Lib.hid (fold_take (l := List.replicate 256 zero32) HX.out)
      have HCL : Hid (((s.take q).foldl setL (List.replicate 256 zero32)).length = 256) := (show _ = _ by rw [fold_len, List.length_replicate])
      generalize (s.take q).foldl setL (List.replicate 256 zero32) = cur at *
      go_wp2_with fail
      clear hr hm0 hb
      generalize wr.alloc (.cells #[.int .i64 x.id, .int .i64 x.bal, .int .i64 x.non, .int .i64 x.dat] 23) = V at *
      by_cases hin : 0 ≤ x.id ∧ x.id < 256
      · refine (some_yes x.id V hin).mono ?_
        rintro e V' ⟨rfl, rfl⟩
        obtain ⟨k, hk⟩ : ∃ k : Nat, x.id = (k : Int) := ⟨x.id.toNat, by omega⟩
        have hk256 : k < 256 := by omega
        have HS : Hid (setL cur x = cur.set k (leafS x)) := (show _ = _ by unfold setL; rw [if_pos hin, hk]; rfl)
        have HRS := Lib.hid (rowF_set cur k (leafS x) (by rw [HCL.out]; exact hk256))
        obtain ⟨-, k0, k1, k2, k3⟩ := acc_cells bx
        clear c0 c1 c2 c3 hin
        go_wp2_with fail
        clear k0 k1 k2 k3
        refine wp_region_C [(0, true), (1, true), (2, true), (3, true), (4, false), (5, false)] (RBut (some (w.heap.size + 1))) (by kernel_rfl) (by kernel_rfl) (by kernel_rfl) (by decide) (RBut.refl_ _) (RBut.trans_ _) (by intro d v c a w h; cases d <;> exact h) ?_
        have bx' : Blk V.drew wr.heap.size 23 (accC x) := bx
        have hr' : Row V.drew (w.heap.size + 1) m D (rowF cur) 256 := hr1
        have hm' : MapF Try.prog 74 pk V.drew w.heap.size 0 (.map []) (fun _ => List.replicate 32 0) := hm1
        have hb' : Below w.heap.size w V.drew := hb1.drew
        have hVr : wr.heap.size < V.drew.heap.size := bx.lt
        clear bx hr1 hm1 hb1 hal
        generalize V.drew = U at *
        have hne : some wr.heap.size ≠ some (w.heap.size + 1) := by intro e; injection e; omega
        have c0 : ∀ w', RBut (some (w.heap.size + 1)) U w' → w'.cell? ⟨wr.heap.size, 0, none⟩ = some (.int .i64 (k : Int)) := fun w' h => by rw [← hk]; exact (acc_cells (bx'.but h hne)).2.1
        repeat (first | (refine wpC_quiet (v := ?_) rfl (by rfl) ?_ ?_; rotate_left; (· (intro w' hw'; go_simp; try with_reducible rfl)); simp only [Act.put, List.setIfInBounds_toArray, List.set_cons_zero, List.set_cons_succ]) | (refine wpC_val (v := ?_) (RBut.refl_ _) rfl (by rfl) ?_ ?_; rotate_left; (· (go_simp; try with_reducible rfl)); simp only [Act.put, List.setIfInBounds_toArray, List.set_cons_zero, List.set_cons_succ]) | (refine wpC_skip rfl (by rfl) ?_; simp only [Act.put, List.setIfInBounds_toArray, List.set_cons_zero, List.set_cons_succ]) | (refine wpC_skip' (RBut.refl_ _) rfl (by rfl) ?_; simp only [Act.put, List.setIfInBounds_toArray, List.set_cons_zero, List.set_cons_succ]))
        refine wpC_load rfl (by rfl) _ _ rfl wr.heap.size 0 rfl (accC x) _ (fun w' h => (bx'.but h hne).range) Try.underlying23 rfl info_acc ?_
        simp only [Act.put, List.setIfInBounds_toArray, List.set_cons_zero, List.set_cons_succ]
        (refine wpC_loud rfl (by rfl) ?_; intro K hK; go_simp)
        refine (leaf_any x HXW.out _).mono ?_
        rintro e U2 ⟨rfl, h2⟩
        have hr2 := hr'.kept (grown_of_below h2 none) (by simp)
        have hm2 := hm'.kept (grown_of_below h2 none) (by simp)
        have hb2 := hb'.trans (h2.mono hb'.size)
        (refine hK.out _ _ (RBut.of_below h2) ?_; clear hK K; try simp only [Act.put, List.setIfInBounds_toArray, List.set_cons_zero, List.set_cons_succ])
        refine wpC_loud rfl (by rfl) ?_
        intro K hK
        refine wp_mput ik_inj _ _ _ rfl keyed_int Try.underlying96 rfl hr2.1 (by simp only [maxLen]; omega) k rfl (keyOf_ik (by omega)) (leafS x) (leafS_len x) rfl ?_
        intro U3 hp3 hg3
        have hr3 := Row.put hr2 hk256 (by decide) hp3
        rw [HRS.out] at hr3
        have hm3 := hm2.kept hg3 (by simp)
        have hb3 := hb2.trans (below_but hg3 (by omega) hb2.size)
        (refine hK.out _ _ (hg3) ?_; clear hK K; try simp only [Act.put, List.setIfInBounds_toArray, List.set_cons_zero, List.set_cons_succ])
        refine wpC_nil ?_
        clear c0
        go_wp2_with fail
        go_roundw
        case rel => exact ⟨q + 1, m + 1, _, by go_num, by omega, by omega, by rw [HFT.out, HS.out]; exact hr3, hm3, hb3⟩
        case measure => simp [intOf]; omega
      · refine (some_no x.id V hin).mono ?_
        rintro e V' ⟨rfl, rfl⟩
        have HS : Hid (setL cur x = cur) := (show _ = _ by unfold setL; rw [if_neg hin])
        clear hin
        go_wp2_with fail
        go_roundw
        case rel => exact ⟨q + 1, m, D, by go_num, by omega, by omega, by rw [HFT.out, HS.out]; exact hr1, hm1, hb1⟩
        case measure => simp [intOf]; omega
    · have t1 : ¬ (q : Int) < (n : Int) := by omega
      have e : s.take q = s := List.take_of_length_le (by rw [HLN.out]; omega)
      have hr9 : Row wr (w.heap.size + 1) m D (levF (leavesL s) 0) 256 := by
        have h9 := hr
        rw [e] at h9
        exact h9
      have hm9 : MapF Try.prog 74 pk wr w.heap.size 0 (.map []) (levM (leavesL s) 0) := by
        rw [levM_zero]
        exact hm0
      have hL := leavesL_len s
      have HLL := Lib.hid hL
      clear hr hm0 e hL
      have hr0 := hr9.lt
      obtain ⟨L, hLe⟩ : ∃ L, leavesL s = L := ⟨_, rfl⟩
      have HLE := Lib.hid hLe
      rw [hLe] at hr9 hm9 HLL
      clear hLe
      go_wp2_with fail
      go_loopw [4, 29] (fun r k wr => ∃ (lv b m mm : Nat) (D DM : DataW Unit), r = .map (some b) ∧ k = .int .i64 (lv : Int) ∧ lv ≤ 9 ∧ w.heap.size < b ∧ m ≤ 1099511627776 ∧ mm ≤ lv * 1099511627776 ∧ Row wr b m D (rowL L lv) 256 ∧
        MapF Try.prog 74 pk wr w.heap.size mm DM (levM L lv) ∧ Below w.heap.size w wr) (fun _ k _ => 9 - (intOf k).toNat)
      case atStart => exact ⟨0, w.heap.size + 1, m, 0, D, .map [], rfl, rfl, by omega, by omega, by omega, by omega, hr9, hm9, hb⟩
      case round =>
        clear hr9 hm9 hb hr0
        obtain ⟨lv, b, m, mm, D, DM, rfl, rfl, hlv, hbM, hm40, hmm40, hr, hM, hb⟩ := hrel
        by_cases hlt9 : lv < 9
        · have t2 : (lv : Int) < 9 := by omega
          rw [rowL_lev L HLL.out lv (by omega)] at hr
          have hr1 := hr.kept (World.grownBy_alloc wr (.map #[] 0) none) (by simp)
          have hM1 := hM.kept (World.grownBy_alloc wr (.map #[] 0) none) (by simp)
          have hu1 := Row.new wr 256
          have hb1 := hb.trans (((Below.refl wr.heap.size wr).alloc (Nat.le_refl _) (.map #[] 0)).mono hb.size)
          have hrl := hr.lt
          have hU : (wr.alloc (.map #[] 0)).heap.size = wr.heap.size + 1 := by simp
          go_wp2_with (first
            | (at_range
               refine wpList_range_own _ rfl _ 96 rfl 3 27 keyed_int Try.underlying96 HR b m D rfl hr1.1.1 ?_
               intro w1 hrg1 hg1 hs1
               simp only [Act.put, List.setIfInBounds_toArray, List.set_cons_zero, List.set_cons_succ]))
          have hr2 := hr1.kept hg1 (by simp)
          have hM2 := hM1.kept hg1 (by simp)
          have hu2 := hu1.kept hg1 (by simp)
          have hb2 := hb1.trans ⟨hg1.os, hg1.tape, hg1.output, hg1.size, fun k hk => hg1.block k (by rw [hU]; have := hb.size; omega) (by simp)⟩
          rw [hU] at hrg1 hs1 ⊢
          have hsz := hb.size
          have hcnt := hr1.size
          rw [show (fun _ : Nat => List.replicate 32 (0 : UInt8)) = (fun _ => zero32) from rfl] at hu2
          rw [midM_start L lv] at hM2
          clear hr hM hb hr1 hM1 hu1 hb1 hg1
          obtain ⟨p, hp⟩ : ∃ p, p = wr.heap.size := ⟨_, rfl⟩
          rw [← hp] at hrg1 hu2 hs1 hrl hsz ⊢
          clear hU hp
          go_loopw [9] (fun _ wi => ∃ (left : Lit → Bool) (cnt mu mm' : Nat) (Du DM' : DataW Unit) (gu gm : Nat → List UInt8), wi.ranges Try.prog 3 HR b (p + 1) m D left cnt ∧ Row wi b m D (levF L lv) 256 ∧ Row wi p mu Du gu 256 ∧
            MapF Try.prog 74 pk wi w.heap.size mm' DM' (midM L lv gm) ∧ Hid (HalfUp (levF L lv) gu (fun x => Maps.has D (.int .i64 (x : Int)) = true) (fun x => left (.int .i64 (x : Int)) = true)) ∧
            Hid (HalfM (levF L lv) gm (fun x => Maps.has D (.int .i64 (x : Int)) = true) (fun x => left (.int .i64 (x : Int)) = true)) ∧ mu + cnt ≤ m ∧ mm' + cnt ≤ (lv + 1) * 1099511627776 ∧ Below w.heap.size w wi) (fun _ wi => wi.rangeLeft b (p + 1))
          case atStart => exact ⟨_, _, 0, mm, .map [], DM, _, _, hrg1, hr2, hu2, hM2, halfUp_start _ _, halfM_start _ _, by omega, by omega, hb2⟩
          case round =>
            clear hrg1 hr2 hu2 hM2 hb2
            obtain ⟨left, cnt, mu, mm', Du, DM', gu, gm, hrg, hr, hu, hM, hHU, hHM, hmu, hmm', hb⟩ := hrel
            have hri := hrg.lt
            go_wp2_with (first
              | (at_next; go_loud (refine wpl_next_h rfl _ rfl b (p + 1) m D (levF L lv) 256 (by decide) left cnt rfl hrg hr ?_ ?_)))
            · intro hc0 hl0
              have hf : ∀ c : Nat, ¬ Maps.has D (.int .i64 (c : Int)) = true → levF L lv c = zero32 := fun c hc => by
                by_cases h : c < 256
                · exact hr.none (by omega) hc
                · exact levF_far L lv c HLL.out (by omega) (by omega)
              have e1 := halfUp_end hHU.out (fun c h => by rw [hl0] at h; cases h) hf
              have e2 := halfM_end hHM.out (fun c h => by rw [hl0] at h; cases h) hf
              rw [e2, midM_end] at hM
              have e3 : upF (levF L lv) = rowL L (lv + 1) := by
                show _ = upF (rowL L lv)
                rw [rowL_lev L HLL.out lv (by omega)]
              rw [e1, e3] at hu
              clear e1 e2 e3 hf hHU hHM hrg hr
              go_wp2_with fail
              go_roundw
              case rel => exact ⟨lv + 1, p, mu, mm', Du, DM', rfl, by go_num, by omega, by omega, by omega, by omega, hu, hM, hb⟩
              case measure => simp [intOf]; omega
            · intro x w2 cnt' hx hlx hfx hrg2 hlt2 hg2 hs2 hen
              have HC0 := Lib.hid hrg.left_eq
              have hbs := hb.size
              have HS2 := Lib.hid hs2
              have hri2 : p + 1 < w2.heap.size := by omega
              clear hs2
              have hr2 := hr.kept hg2 (by simp; omega)
              have hu2 := hu.kept hg2 (by simp)
              have hM2 := hM.kept hg2 (by simp; omega)
              have hb2 := hb.trans (below_but hg2 (by omega) hb.size)
              clear hrg hr hu hM hb
              obtain ⟨kl, hkl⟩ := keyOf_pk (lv, x) (by simp; omega) (by simp; omega)
              have HK := Lib.hid hkl
              clear hkl
              have e1 : Value.int .i64 ((x : Int) / 2 * 2) = ik (2 * (x / 2)) := by unfold ik; congr 1; omega
              have e2 : Value.int .i64 ((x : Int) / 2 * 2 + 1) = ik (2 * (x / 2) + 1) := by unfold ik; congr 1; omega
              have e3 : Value.int .i64 ((x : Int) / 2) = ik (x / 2) := by unfold ik; congr 1
              have E1 := Lib.hid e1
              have E2 := Lib.hid e2
              have E3 := Lib.hid e3
              clear e1 e2 e3
              unfold hv at hen ⊢
              go_wp2_with (first
                | (refine wpl_store_new rfl _ _ _ rfl 27 _ (B8 (levF L lv x)) rfl rfl (by rw [B8_len, hfx]; rfl) (info_hash hfx) (B8_one _) ?_
                   intro w3 bh hb3
                   simp only [Act.put, List.setIfInBounds_toArray, List.set_cons_zero, List.set_cons_succ]
                   have hr3 := hr2.kept (grown_of_below hb3 none) (by simp)
                   have hu3 := hu2.kept (grown_of_below hb3 none) (by simp)
                   have hM3 := hM2.kept (grown_of_below hb3 none) (by simp)
                   have hrg3 := hrg2.kept (grown_of_below hb3 none) (by simp) (by simp))
                | (refine wpl_load_fld (by rfl) _ _ rfl w2.heap.size 0 rfl (B8 (levF L lv x)) _ bh.range Try.underlying27 rfl (info_hash hfx) ?_)
                | (at_mapUpdate
                   refine wpl_mput pk_inj (by rfl) _ _ _ rfl keyed_place Try.underlying71 rfl hM3 (by simp only [maxLen]; omega) (lv, x) rfl HK.out (levF L lv x) hfx rfl ?_
                   intro w4 hM4 hg4
                   simp only [Act.put, List.setIfInBounds_toArray, List.set_cons_zero, List.set_cons_succ]
                   rw [midM_put] at hM4
                   have hr4 := hr3.kept hg4 (by simp; omega)
                   have hu4 := hu3.kept hg4 (by simp; omega)
                   have hrg4 := hrg3.kept hg4 (by simp; omega) (by simp; omega)
                   obtain ⟨hl1, q1⟩ := hr4.1.get keyed_int Try.underlying96 (zero_h _) (keyOf_ik (show 2 * (x / 2) < 9223372036854775808 by omega))
                   obtain ⟨hl2, q2⟩ := hr4.1.get keyed_int Try.underlying96 (zero_h _) (keyOf_ik (show 2 * (x / 2) + 1 < 9223372036854775808 by omega))
                   rw [← E1.out] at q1
                   rw [← E2.out] at q2))
              refine (above_any (levF L lv (2 * (x / 2))) (levF L lv (2 * (x / 2) + 1)) hl1 hl2 _).mono ?_
              rintro e w5 ⟨rfl, hb5⟩
              have hr5 := hr4.kept (grown_of_below hb5 none) (by simp)
              have hu5 := hu4.kept (grown_of_below hb5 none) (by simp)
              have hM5 := hM4.kept (grown_of_below hb5 none) (by simp)
              have hrg5 := hrg4.kept (grown_of_below hb5 none) (by simp) (by simp)
              have hs3 := hb3.size
              have hs4 := hg4.size
              have hs5 := hb5.size
              have f5 := ((hb2.trans (hb3.mono (by omega))).trans (below_but hg4 (by omega) (by omega))).trans (hb5.mono (by omega))
              go_wp2_with (first
                | (at_mapUpdate
                   refine wpl_mput ik_inj (by rfl) _ _ _ rfl keyed_int Try.underlying96 rfl hu5.1 (by simp only [maxLen]; omega) (x / 2) (by exact E3.out) (keyOf_ik (by omega)) (overS (levF L lv (2 * (x / 2))) (levF L lv (2 * (x / 2) + 1))) (overS_len _ _) rfl ?_
                   intro w6 hu6 hg6
                   simp only [Act.put, List.setIfInBounds_toArray, List.set_cons_zero, List.set_cons_succ]))
              have hu7 := Row.put hu5 (show x / 2 < 256 by omega) (by decide) hu6
              have hr6 := hr5.kept hg6 (by simp; omega)
              have hM6 := hM5.kept hg6 (by simp; omega)
              have hrg6 := hrg5.kept hg6 (by simp; omega) (by simp)
              have f6 := f5.trans (below_but hg6 hsz (by omega))
              have hst : ∀ c : Nat, c ≠ x → left (.int .i64 (c : Int)) = true → (fun z => left z && !z.sameKey (.int .i64 (x : Int))) (.int .i64 (c : Int)) = true := by
                intro c hc hl
                show (left _ && !Lit.sameKey _ _) = true
                rw [hl]
                simp [Lit.sameKey]
                omega
              have hU := halfUp_step (x := x) hHU.out hst
              have hM := halfM_step (x := x) hHM.out hst
              have efu : (fun y => if y = x / 2 then overS (levF L lv (2 * (x / 2))) (levF L lv (2 * (x / 2) + 1)) else gu y) = (fun q => if q = x / 2 then upF (levF L lv) q else gu q) := by
                funext y
                by_cases hy : y = x / 2
                · rw [if_pos hy, if_pos hy, hy]
                  rfl
                · rw [if_neg hy, if_neg hy]
              rw [efu] at hu7
              have hc1 := hrg6.left_eq
              go_roundw
              case rel => exact ⟨_, cnt', mu + 1, mm' + 1, _, _, _, _, hrg6, hr6, hu7, hM6, hU, hM, by omega, by omega, f6⟩
              case measure => rw [hc1, HC0.out]; exact hlt2
        · obtain rfl : lv = 9 := by omega
          have t2 : ¬ (9 : Int) < 9 := by omega
          go_wp2_with fail
          go_ret
          refine ⟨_, rfl, Nat.le_refl _, ⟨mm, DM, ?_⟩, hb⟩
          rw [HLE.out]
          have e9 : levM L 9 = (fun p => if p.1 ≤ 8 then levF L p.1 p.2 else zero32) := by
            funext p
            unfold levM
            by_cases h : p.1 ≤ 8
            · rw [if_pos h, if_pos (by omega)]
            · rw [if_neg h, if_neg (by omega)]
          rw [← e9]
          exact hM
end Go.Proofs.Ytakebmpnbdlcoaa
/- Walks: tree.Root, tree.Prove. -/
set_option linter.unusedSimpArgs false
set_option linter.unusedVariables false
namespace Go.Proofs.Ytakebmpnbdlcoaa
open Go.RowKit
set_option maxRecDepth 100000
theorem rootS_len (s : List Acc) : (rootJ 8 (leavesL s)).length = 32 := by
  rw [rootJ_lev, List.getD_eq_getElem?_getD]
  cases h : (lev 8 (leavesL s))[0]? with
  | none => rfl
  | some x => exact lev_all 8 _ (leavesL_all s) x (List.mem_of_getElem? h)
set_option maxRecDepth 100000 in
set_option maxHeartbeats 2000000 in
theorem treeRoot_any (A : Option Addr) (n c : Nat) (s : List Acc) (w : World) (sl : Sl w 4 A n (A4 s)) (hlen : s.length = n) (hn : n ≤ 1099511627776) (hwf : ∀ x ∈ s, x.wf) :
    Calls Try.prog 21 #[.slice A n c] w fun e w' => e = .returned (hv (rootJ 8 (leavesL s))) ∧ Below w.heap.size w w' := by
  obtain ⟨W, HW, hbw, bz⟩ : ∃ W, Hid (W = w.alloc (.cells #[.int .u8 0, .int .u8 0, .int .u8 0, .int .u8 0, .int .u8 0, .int .u8 0, .int .u8 0, .int .u8 0, .int .u8 0, .int .u8 0, .int .u8 0, .int .u8 0, .int .u8 0, .int .u8 0, .int .u8 0, .int .u8 0, .int .u8 0, .int .u8 0, .int .u8 0, .int .u8 0, .int .u8 0, .int .u8 0, .int .u8 0, .int .u8 0, .int .u8 0, .int .u8 0, .int .u8 0, .int .u8 0, .int .u8 0, .int .u8 0, .int .u8 0, .int .u8 0] 27)) ∧ Below w.heap.size w W ∧ Blk W w.heap.size 27 (B8 zero32) :=
    ⟨_, rfl, (Below.refl _ _).alloc (Nat.le_refl _) _, Blk.new w #[.int .u8 0, .int .u8 0, .int .u8 0, .int .u8 0, .int .u8 0, .int .u8 0, .int .u8 0, .int .u8 0, .int .u8 0, .int .u8 0, .int .u8 0, .int .u8 0, .int .u8 0, .int .u8 0, .int .u8 0, .int .u8 0, .int .u8 0, .int .u8 0, .int .u8 0, .int .u8 0, .int .u8 0, .int .u8 0, .int .u8 0, .int .u8 0, .int .u8 0, .int .u8 0, .int .u8 0, .int .u8 0, .int .u8 0, .int .u8 0, .int .u8 0, .int .u8 0] 27⟩
  have HLN := Lib.hid hlen
  have HWF := Lib.hid hwf
  clear hlen hwf
  go_enter Try.func21, Try.ntmps21
  go_upto_region 1 with fail
  refine wp_at HW.out ?_
  clear HW
  go_wp2_with fail
  refine (grow_any A n c s W (sl.to hbw) HLN.out hn HWF.out).mono ?_
  rintro e w1 ⟨b, m, D, rfl, hbn, hm, hb⟩
  have bz1 := bz.to hb
  have f1 := hbw.trans (hb.mono hbw.size)
  obtain ⟨kl, hkl⟩ := keyOf_pk (8, 0) (by decide) (by decide)
  obtain ⟨hl, q1⟩ := hm.get (t := 71) keyed_place Try.underlying71 (zero_h _) hkl
  have e0 : (if ((8, 0) : Nat × Nat).1 ≤ 8 then levF (leavesL s) ((8, 0) : Nat × Nat).1 ((8, 0) : Nat × Nat).2 else zero32) = rootJ 8 (leavesL s) := by rw [rootJ_lev]; rfl
  rw [e0] at hl q1
  clear e0 hm hkl
  have q2 : (Instr.lookup 71 (.map (some b)) (.agg #[.int .i64 8, .int .i64 0]) false).run Try.prog w1 = .ok (.agg (B8 (rootJ 8 (leavesL s))).toArray) w1 := q1
  clear q1
  obtain ⟨r, hr⟩ : ∃ r, rootJ 8 (leavesL s) = r := ⟨_, rfl⟩
  rw [hr] at hl q2
  have HR := Lib.hid hr
  clear hr
  have HL := Lib.hid hl
  clear hl
  go_wp2_with (first
    | (refine wpl_store_fld (by rfl) _ _ _ rfl w.heap.size 0 _ _ (B8 r) rfl _ rfl rfl bz1 (by rw [B8_len, HL.out]; decide) (info_hash HL.out) (B8_one _) ?_
       intro w2 bz2 bu2
       rw [put_all _ _ (by rw [B8_len, HL.out]; rfl)] at bz2))
  exact bodyPost_ret (v := hv r) (results_blk Try.results21 rfl bz2 Try.underlying27 rfl (info_hash HL.out)) rfl ⟨by rw [HR.out], f1.trans (below_but bu2 (Nat.le_refl _) f1.size)⟩
theorem xor_i64_nat (a b : Nat) (ha : a < 9223372036854775808) (hb : b < 9223372036854775808) : bits .xor .i64 (a : Int) (b : Int) = ((a ^^^ b : Nat) : Int) := by
  have hx : a ^^^ b < 2 ^ 63 := Nat.xor_lt_two_pow (by omega) (by omega)
  have h1 : (BitVec.ofInt 64 (a : Int)).toNat = a := by
    rw [BitVec.ofInt_natCast, BitVec.toNat_ofNat]; exact Nat.mod_eq_of_lt (by omega)
  have h2 : (BitVec.ofInt 64 (b : Int)).toNat = b := by
    rw [BitVec.ofInt_natCast, BitVec.toNat_ofNat]; exact Nat.mod_eq_of_lt (by omega)
  show IntKind.i64.wrap ((BitVec.ofInt 64 (a : Int) ^^^ BitVec.ofInt 64 (b : Int)).toNat : Int) = _
  rw [BitVec.toNat_xor, h1, h2]
  exact IntWalk.i64_in _ (by omega)
theorem and_i64_nat (a b : Nat) (ha : a < 9223372036854775808) (hb : b < 9223372036854775808) : bits .and .i64 (a : Int) (b : Int) = ((a &&& b : Nat) : Int) := by
  have hx : a &&& b < 2 ^ 63 := Nat.and_lt_two_pow _ (by omega)
  have h1 : (BitVec.ofInt 64 (a : Int)).toNat = a := by
    rw [BitVec.ofInt_natCast, BitVec.toNat_ofNat]; exact Nat.mod_eq_of_lt (by omega)
  have h2 : (BitVec.ofInt 64 (b : Int)).toNat = b := by
    rw [BitVec.ofInt_natCast, BitVec.toNat_ofNat]; exact Nat.mod_eq_of_lt (by omega)
  show IntKind.i64.wrap ((BitVec.ofInt 64 (a : Int) &&& BitVec.ofInt 64 (b : Int)).toNat : Int) = _
  rw [BitVec.toNat_and, h1, h2]
  exact IntWalk.i64_in _ (by omega)
theorem shr_nat (k q : Nat) : (k : Int) / 2 ^ q = ((k / 2 ^ q : Nat) : Int) := by
  rw [Int.natCast_ediv, Int.natCast_pow]
  rfl
/-- what stands beside a way up, as the code reckons it -/
theorem sib_at (k q : Nat) (hk : k < 256) : bits .xor .i64 ((k : Int) / 2 ^ q) 1 = (((k / 2 ^ q) ^^^ 1 : Nat) : Int) := by
  have h := Nat.div_le_self k (2 ^ q)
  rw [shr_nat]
  exact xor_i64_nat (k / 2 ^ q) 1 (by omega) (by omega)
/-- a path as a value -/
def pv (p : List (List UInt8)) : Value := .agg (H8 p).toArray
def path0 : List (List UInt8) := List.replicate 8 zero32
/-- the sums beside an account's way up; noughts of none -/
def proveS (s : List Acc) (i : Int) : List (List UInt8) := if 0 ≤ i ∧ i < 256 then proveJ 8 (leavesL s) i.toNat else path0
theorem info_path {p : List (List UInt8)} (h : p.length = 8) (ha : ∀ x ∈ p, x.length = 32) : (Try.prog.info? 41).map (·.size) = some (H8 p).length := by rw [H8_len p ha, h]; kernel_rfl
theorem zero_path : Try.zeroCells41 = (H8 path0).toArray := by kernel_rfl
/-- half of a path's sums -/
def halfP (L : List (List UInt8)) (i k : Nat) : List (List UInt8) := (proveJ 8 L i).take k ++ path0.drop k
theorem proveJ_len (j : Nat) (L : List (List UInt8)) (i : Nat) : (proveJ j L i).length = j := by simp [proveJ]
theorem levF_len {L : List (List UInt8)} (hA : ∀ x ∈ L, x.length = 32) (k c : Nat) : (levF L k c).length = 32 := by
  unfold levF
  rw [List.getD_eq_getElem?_getD]
  cases h : (lev k L)[c]? with
  | none => rfl
  | some x => exact lev_all k L hA x (List.mem_of_getElem? h)
theorem proveJ_all {L : List (List UInt8)} (hA : ∀ x ∈ L, x.length = 32) (j i : Nat) : ∀ x ∈ proveJ j L i, x.length = 32 := by
  intro x hx
  obtain ⟨k, _, rfl⟩ := List.mem_map.1 hx
  exact levF_len hA k _
theorem halfP_len (L : List (List UInt8)) (i k : Nat) (hk : k ≤ 8) : (halfP L i k).length = 8 := by
  unfold halfP
  rw [List.length_append, List.length_take, List.length_drop, proveJ_len]
  simp [path0]
  omega
theorem path0_all : ∀ x ∈ path0, x.length = 32 := by decide
theorem halfP_all {L : List (List UInt8)} (hA : ∀ x ∈ L, x.length = 32) (i k : Nat) : ∀ x ∈ halfP L i k, x.length = 32 := by
  intro x hx
  rcases List.mem_append.1 hx with h | h
  · exact proveJ_all hA 8 i x (List.mem_of_mem_take h)
  · exact path0_all x (List.mem_of_mem_drop h)
theorem halfP_next (L : List (List UInt8)) (i k : Nat) (hk : k < 8) : halfP L i (k + 1) = (halfP L i k).set k (sib k i L) := by
  have e1 : ((proveJ 8 L i).take k).length = k := by rw [List.length_take, proveJ_len]; omega
  have e2 : (proveJ 8 L i)[k]? = some (sib k i L) := by
    unfold proveJ
    rw [List.getElem?_map, List.getElem?_range hk]
    rfl
  unfold halfP
  rw [List.set_append_right _ _ (by omega), e1, List.take_add_one, e2, List.append_assoc]
  congr 1
  simp only [Nat.sub_self]
  have hl : k < path0.length := by simpa [path0] using hk
  rw [show path0.drop k = path0[k] :: path0.drop (k + 1) from List.drop_eq_getElem_cons hl]
  rfl
theorem halfP_end (L : List (List UInt8)) (i : Nat) : halfP L i 8 = proveJ 8 L i := by
  unfold halfP
  rw [List.take_of_length_le (by rw [proveJ_len]; exact Nat.le_refl _), List.drop_eq_nil_of_le (by simp [path0]), List.append_nil]
set_option maxRecDepth 100000 in
set_option maxHeartbeats 2000000 in
theorem prove_any (A : Option Addr) (n c : Nat) (s : List Acc) (i : Int) (w : World) (sl : Sl w 4 A n (A4 s)) (hlen : s.length = n) (hn : n ≤ 1099511627776) (hwf : ∀ x ∈ s, x.wf) :
    Calls Try.prog 24 #[.slice A n c, .int .i64 i] w fun e w' => e = .returned (pv (proveS s i)) ∧ Below w.heap.size w w' := by
  obtain ⟨W, HW, hbw, bz, bp⟩ : ∃ W, Hid (W = (w.alloc (.cells Try.zeroCells41 41)).alloc (.cells Try.zeroCells41 41)) ∧ Below w.heap.size w W ∧ Blk W w.heap.size 41 (H8 path0) ∧ Blk W (w.heap.size + 1) 41 (H8 path0) := by
    refine ⟨_, rfl, ((Below.refl _ _).alloc (Nat.le_refl _) _).alloc (by simp) _, ?_, ?_⟩
    · have := (Blk.new w Try.zeroCells41 41).to ((Below.refl _ _).alloc (Nat.le_refl _) (.cells Try.zeroCells41 41))
      rwa [show Try.zeroCells41.toList = H8 path0 from by rw [zero_path]] at this
    · have := Blk.new (w.alloc (.cells Try.zeroCells41 41)) Try.zeroCells41 41
      rw [show (w.alloc (.cells Try.zeroCells41 41)).heap.size = w.heap.size + 1 from by simp] at this
      rwa [show Try.zeroCells41.toList = H8 path0 from by rw [zero_path]] at this
  have HLN := Lib.hid hlen
  have HWF := Lib.hid hwf
  have ip0 := info_path (p := path0) rfl (by decide)
  have IP0 := Lib.hid ip0
  clear hlen hwf ip0
  have hW2 := bp.lt
  by_cases hin : 0 ≤ i ∧ i < 256
  · obtain ⟨k0, rfl⟩ : ∃ k : Nat, i = (k : Int) := ⟨i.toNat, by omega⟩
    have hk256 : k0 < 256 := by omega
    have HP : Hid (proveS s (k0 : Int) = proveJ 8 (leavesL s) k0) := (show _ = _ by unfold proveS; rw [if_pos hin]; rfl)
    go_enter Try.func24, Try.ntmps24
    go_upto_region 2 with fail
    refine wp_at HW.out ?_
    clear HW
    go_wp2_with fail
    refine (some_yes (k0 : Int) W hin).mono ?_
    rintro e W' ⟨rfl, rfl⟩
    clear hin
    go_wp2_with fail
    refine (grow_any A n c s W (sl.to hbw) HLN.out hn HWF.out).mono ?_
    rintro e w1 ⟨b, m, D, rfl, hbn, hm, hb⟩
    have bz1 := bz.to hb
    have bp1 := bp.to hb
    have f1 := hbw.trans (hb.mono hbw.size)
    have hw1 := hb.size
    have hHL := leavesL_len s
    have hHA := leavesL_all s
    obtain ⟨L, hLe⟩ : ∃ L, leavesL s = L := ⟨_, rfl⟩
    rw [hLe] at hm HP hHL hHA
    have HLL := Lib.hid hHL
    have HLA := Lib.hid hHA
    clear hHL hHA hLe bz bp hbw hb
    have hmb := hm.1.lt
    go_wp2_with fail
    go_loopw [14] (fun k wr => ∃ q : Nat, k = .int .i64 (q : Int) ∧ q ≤ 8 ∧ Blk wr (w.heap.size + 1) 41 (H8 (halfP L k0 q)) ∧ RBut (some (w.heap.size + 1)) w1 wr) (fun k _ => 8 - (intOf k).toNat)
    case atStart => exact ⟨0, rfl, Nat.zero_le _, bp1, RBut.refl_ _ _⟩
    case round =>
      clear bp1
      obtain ⟨q, rfl, hq, bp, hbu⟩ := hrel
      by_cases hlt : q < 8
      · have t1 : (q : Int) < 8 := by omega
        have hk := sib_at k0 q hk256
        have hdl := Nat.div_le_self k0 (2 ^ q)
        have hxl : (k0 / 2 ^ q) ^^^ 1 < 2 ^ 9 := Nat.xor_lt_two_pow (by omega) (by omega)
        obtain ⟨kl, hkl⟩ := keyOf_pk (q, (k0 / 2 ^ q) ^^^ 1) (by simp; omega) (by simp; omega)
        have hmr := hm.kept hbu (by intro e; injection e; omega)
        obtain ⟨hl, q1⟩ := hmr.get (t := 71) keyed_place Try.underlying71 (zero_h _) hkl
        have e0 : (if ((q, (k0 / 2 ^ q) ^^^ 1) : Nat × Nat).1 ≤ 8 then levF L ((q, (k0 / 2 ^ q) ^^^ 1) : Nat × Nat).1 ((q, (k0 / 2 ^ q) ^^^ 1) : Nat × Nat).2 else zero32) = sib q k0 L := by
          rw [if_pos (by show q ≤ 8; omega)]
          rfl
        rw [e0] at hl q1
        have q2 : (Instr.lookup 71 (.map (some b)) (.agg #[.int .i64 (q : Int), .int .i64 (bits .xor .i64 ((k0 : Int) / 2 ^ q) 1)]) false).run Try.prog wr = .ok (.agg (B8 (sib q k0 L)).toArray) wr := by
          rw [hk]
          exact q1
        have HNX := Lib.hid (halfP_next L k0 q hlt)
        have hpu := put_H8 (halfP L k0 q) [] q (sib q k0 L) (halfP_all HLA.out k0 q) hl (by rw [halfP_len L k0 q hq]; omega)
        rw [List.append_nil, List.append_nil, ← HNX.out] at hpu
        have HPU := Lib.hid hpu
        have HLE : Hid (q * 32 + 32 ≤ (H8 (halfP L k0 q)).length) := (by
          show _ ≤ _
          rw [H8_len _ (halfP_all HLA.out k0 q), halfP_len L k0 q hq]
          omega)
        have HL := Lib.hid hl
        obtain ⟨x, hx⟩ : ∃ x, sib q k0 L = x := ⟨_, rfl⟩
        rw [hx] at q2 HPU HL
        clear e0 hkl hk q1 hmr hpu hx hl hxl
        go_wp2_with (first
          | (refine wpl_store_fld (by rfl) _ _ _ rfl (w.heap.size + 1) (q * 32) _ _ (B8 x) rfl _ rfl rfl bp (by rw [B8_len, HL.out]; exact HLE.out) (info_hash HL.out) (B8_one _) ?_
             intro w2 bp2 bu2
             rw [HPU.out] at bp2))
        go_roundw
        case rel => exact ⟨q + 1, by go_num, by omega, bp2, RBut.trans_ _ _ _ _ hbu bu2⟩
        case measure => simp [intOf]; omega
      · obtain rfl : q = 8 := by omega
        have t1 : ¬ (8 : Int) < 8 := by omega
        rw [halfP_end] at bp
        have ipp := info_path (proveJ_len 8 L k0) (proveJ_all HLA.out 8 k0)
        have IPP := Lib.hid ipp
        have bz2 := bz1.but hbu (by intro e; injection e; omega)
        have f2 := f1.trans (below_but hbu (by omega) f1.size)
        have HLN2 : Hid ((H8 (proveJ 8 L k0)).length = 256) := (by show _ = _; rw [H8_len _ (proveJ_all HLA.out 8 k0), proveJ_len])
        obtain ⟨pp, hpp⟩ : ∃ pp, proveJ 8 L k0 = pp := ⟨_, rfl⟩
        rw [hpp] at bp IPP HLN2 HP
        clear ipp hpp
        go_wp2_with (first
          | (refine wpl_load_fld (by rfl) _ _ rfl (w.heap.size + 1) 0 rfl (H8 pp) _ bp.range Try.underlying41 rfl IPP.out ?_)
          | (refine wpl_store_fld (by rfl) _ _ _ rfl w.heap.size 0 _ _ (H8 pp) rfl _ rfl rfl bz2 (by rw [HLN2.out]; decide) IPP.out (H8_one _) ?_
             intro w3 bz3 bu3
             rw [put_all _ _ (by rw [HLN2.out]; rfl)] at bz3))
        exact bodyPost_ret (v := pv pp) (results_blk Try.results24 rfl bz3 Try.underlying41 rfl IPP.out) rfl ⟨by rw [HP.out], f2.trans (below_but bu3 (Nat.le_refl _) f2.size)⟩
  · have HP : Hid (proveS s i = path0) := (show _ = _ by unfold proveS; rw [if_neg hin])
    go_enter Try.func24, Try.ntmps24
    go_upto_region 2 with fail
    refine wp_at HW.out ?_
    clear HW
    go_wp2_with fail
    refine (some_no i W hin).mono ?_
    rintro e W' ⟨rfl, rfl⟩
    clear hin
    have HLN2 : Hid ((H8 path0).length = 256) := (by show _ = _; decide)
    go_wp2_with (first
      | (refine wpl_load_fld (by rfl) _ _ rfl (w.heap.size + 1) 0 rfl (H8 path0) _ bp.range Try.underlying41 rfl IP0.out ?_)
      | (refine wpl_store_fld (by rfl) _ _ _ rfl w.heap.size 0 _ _ (H8 path0) rfl _ rfl rfl bz (by rw [HLN2.out]; decide) IP0.out (H8_one _) ?_
         intro w3 bz3 bu3
         rw [put_all _ _ rfl] at bz3))
    exact bodyPost_ret (v := pv path0) (results_blk Try.results24 rfl bz3 Try.underlying41 rfl IP0.out) rfl ⟨by rw [HP.out], hbw.trans (below_but bu3 (Nat.le_refl _) hbw.size)⟩
end Go.Proofs.Ytakebmpnbdlcoaa
/- Arguments: accounts and paths. -/
set_option linter.unusedSimpArgs false
set_option linter.unusedVariables false
namespace Go.Proofs.Ytakebmpnbdlcoaa
open Go.ChangeShapes Go.WideShapes Go.ChangeAt Go.RowKit
section
variable {H : Type} {enc : TypeId × Value → H} {P : Program} {W : World}
theorem int_of {e : TypeId} {m : Nat} {cs : List Value} {x : DataW H × List MemPlace} (he : P.underlying e = some (.int .i64)) (hl : cs.length = 1) (h : DataW.trod enc P W 0 (fun _ => true) true m e cs = some x) :
    ∃ n : Int, cs = [.int .i64 n] ∧ -9223372036854775808 ≤ n ∧ n < 9223372036854775808 := by
  obtain ⟨d, p⟩ := x
  obtain ⟨n, rfl, _, h3⟩ := DataW.trod_int he h
  simp [Lit.wf, IntKind.min, IntKind.max, IntKind.signed, IntKind.bits] at h3
  exact ⟨n, rfl, by omega, by omega⟩
/-- an account among the arguments -/
theorem arg_acc {t e : TypeId} {f0 f1 f2 f3 : Field} {v : Value} {d : DataW H} {p : List MemPlace} {r : Reach} {base : Nat} (ht : P.underlying t = some (.struct #[f0, f1, f2, f3])) (he : P.underlying e = some (.int .i64)) (hc : P.cellsOf e = 1) (hk : P.cellsOf t = 4)
    (h0 : f0.type = e ∧ f0.offset = 0) (h1 : f1.type = e ∧ f1.offset = 1) (h2 : f2.type = e ∧ f2.offset = 2) (h3 : f3.type = e ∧ f3.offset = 3)
    (hv : Value.okWide P W r base t v) (h : DataW.Trod enc P W 0 (fun _ => true) true t v d p) : ∃ a : Acc, v = accV a ∧ a.wf := by
  simp only [Value.okWide, ht] at hv
  obtain ⟨cs, rfl, hsz, _⟩ := hv
  obtain ⟨fuel, hf⟩ := h
  obtain ⟨xs, m, _, _, hl, hx, hall⟩ := DataW.trod_struct ht hf
  simp only [Value.cells] at hl hall
  have hlen : cs.toList.length = 4 := by rw [hl, hk]
  have hx4 : xs.length = 4 := hx
  have key : ∀ (i : Nat) (f : Field), #[f0, f1, f2, f3][i]? = some f → f.type = e ∧ f.offset = i → i < 4 → ∃ n : Int, (cs.toList.drop i).take 1 = [.int .i64 n] ∧ -9223372036854775808 ≤ n ∧ n < 9223372036854775808 := by
    intro i f hf hi hlt
    have := hall i f hf
    rw [hi.1, hi.2, hc, List.getElem?_eq_getElem (by omega)] at this
    exact int_of he (by rw [List.length_take, List.length_drop]; omega) this
  obtain ⟨a0, e0, b0⟩ := key 0 f0 rfl h0 (by omega)
  obtain ⟨a1, e1, b1⟩ := key 1 f1 rfl h1 (by omega)
  obtain ⟨a2, e2, b2⟩ := key 2 f2 rfl h2 (by omega)
  obtain ⟨a3, e3, b3⟩ := key 3 f3 rfl h3 (by omega)
  refine ⟨⟨a0, a1, a2, a3⟩, ?_, ?_⟩
  · unfold accV
    congr 1
    match cs, hlen, e0, e1, e2, e3 with
    | ⟨[c0, c1, c2, c3]⟩, _, e0, e1, e2, e3 =>
      simp at e0 e1 e2 e3
      subst e0 e1 e2 e3
      rfl
  · exact ⟨b0, b1, b2, b3⟩
theorem H8_rows : ∀ (n : Nat) (cs : List Value), cs.length = n * 32 → (∀ i, i < n → ∃ g : List UInt8, (cs.drop (i * 32)).take 32 = B8 g ∧ g.length = 32) → ∃ p : List (List UInt8), cs = H8 p ∧ p.length = n ∧ ∀ x ∈ p, x.length = 32
  | 0, cs, hl, _ => ⟨[], by rw [show cs = [] from List.length_eq_zero_iff.1 (by omega)]; rfl, rfl, by simp⟩
  | n + 1, cs, hl, h => by
    obtain ⟨g, hg, hg32⟩ := h 0 (by omega)
    obtain ⟨p, hp, hpl, hp32⟩ := H8_rows n (cs.drop 32) (by rw [List.length_drop]; omega) (fun i hi => by
      obtain ⟨q, hq, hq2⟩ := h (i + 1) (by omega)
      refine ⟨q, ?_, hq2⟩
      rw [List.drop_drop, show 32 + i * 32 = (i + 1) * 32 from by omega]
      exact hq)
    refine ⟨g :: p, ?_, by simp [hpl], ?_⟩
    · rw [Nat.zero_mul, List.drop_zero] at hg
      rw [H8, List.flatMap_cons, ← hg, ← H8, ← hp, List.take_append_drop]
    · intro x hx
      rcases List.mem_cons.1 hx with rfl | hx
      · exact hg32
      · exact hp32 x hx
/-- a path among the arguments -/
theorem arg_path {t e q : TypeId} {v : Value} {d : DataW H} {p : List MemPlace} {r : Reach} {base : Nat} (ht : P.underlying t = some (.array 8 e)) (he : P.underlying e = some (.array 32 q)) (hq : P.underlying q = some (.int .u8)) (hc : P.cellsOf q = 1) (hk : P.cellsOf e = 32) (hm : P.cellsOf t = 256)
    (hv : Value.okWide P W r base t v) (h : DataW.Trod enc P W 0 (fun _ => true) true t v d p) : ∃ g : List (List UInt8), v = pv g ∧ g.length = 8 ∧ ∀ x ∈ g, x.length = 32 := by
  simp only [Value.okWide, ht] at hv
  obtain ⟨cs, rfl, hsz, _⟩ := hv
  obtain ⟨fuel, hf⟩ := h
  obtain ⟨xs, m, _, _, hl, hx, hall⟩ := DataW.trod_array ht hf
  simp only [Value.cells] at hl hall
  obtain ⟨g, hg, hg8, hg32⟩ := H8_rows 8 cs.toList (by rw [hl, hm]) (fun i hi => by
    have := hall i hi
    rw [hk, List.getElem?_eq_getElem (by omega)] at this
    generalize xs[i] = x at this
    obtain ⟨d, p⟩ := x
    obtain ⟨g, h1, h2⟩ := hash_of he hq hc hk this
    exact ⟨g, h1, h2⟩)
  exact ⟨g, by unfold pv; rw [← hg], hg8, hg32⟩
end
end Go.Proofs.Ytakebmpnbdlcoaa
