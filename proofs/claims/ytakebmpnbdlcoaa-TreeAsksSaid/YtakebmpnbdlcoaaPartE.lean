/- The texts of this claim, part E: words, plain laws, walks. -/
import Derived.Test.YtakebmpnbdlcoaaPartD
import Derived.IntWalk
import Derived.Test.YtakebmpnbdlcoaaPartB
import Derived.Test.YtakebmpnbdlcoaaPartA
/- Walks: the document's tree: over; the root of leaves. -/
set_option linter.unusedSimpArgs false
set_option linter.unusedVariables false
namespace Go.Proofs.Ytakebmpnbdlcoaa
open Go.RowKit
set_option maxRecDepth 100000
/-- what stands above two sums -/
def overS (a b : List UInt8) : List UInt8 := if a = zero32 ∧ b = zero32 then zero32 else twoS a b
theorem overS_len (a b : List UInt8) : (overS a b).length = 32 := by
  unfold overS
  split
  · rfl
  · exact twoS_len a b
theorem built_zero_ : Try.prog.built 27 [] = some (B8 zero32).toArray := by kernel_rfl
theorem zero_alloc : (#[.int .u8 0, .int .u8 0, .int .u8 0, .int .u8 0, .int .u8 0, .int .u8 0, .int .u8 0, .int .u8 0, .int .u8 0, .int .u8 0, .int .u8 0, .int .u8 0, .int .u8 0, .int .u8 0, .int .u8 0, .int .u8 0, .int .u8 0, .int .u8 0, .int .u8 0, .int .u8 0, .int .u8 0, .int .u8 0, .int .u8 0, .int .u8 0, .int .u8 0, .int .u8 0, .int .u8 0, .int .u8 0, .int .u8 0, .int .u8 0, .int .u8 0, .int .u8 0] : Array Value) = (B8 zero32).toArray := rfl
set_option maxRecDepth 100000 in
set_option maxHeartbeats 1000000 in
theorem refOver_any (a b : List UInt8) (ha : a.length = 32) (hb : b.length = 32) (w : World) :
    Calls Try.prog 48 #[hv a, hv b] w fun e w' => e = .returned (hv (overS a b)) ∧ Below w.heap.size w w' := by
  unfold hv
  obtain ⟨W, HW, hbw, ba, bb, bz⟩ : ∃ W, Hid (W = ((w.alloc (.cells (B8 a).toArray 27)).alloc (.cells (B8 b).toArray 27)).alloc (.cells #[.int .u8 0, .int .u8 0, .int .u8 0, .int .u8 0, .int .u8 0, .int .u8 0, .int .u8 0, .int .u8 0, .int .u8 0, .int .u8 0, .int .u8 0, .int .u8 0, .int .u8 0, .int .u8 0, .int .u8 0, .int .u8 0, .int .u8 0, .int .u8 0, .int .u8 0, .int .u8 0, .int .u8 0, .int .u8 0, .int .u8 0, .int .u8 0, .int .u8 0, .int .u8 0, .int .u8 0, .int .u8 0, .int .u8 0, .int .u8 0, .int .u8 0, .int .u8 0] 27)) ∧ Below w.heap.size w W ∧
      Blk W w.heap.size 27 (B8 a) ∧ Blk W (w.heap.size + 1) 27 (B8 b) ∧ Blk W (w.heap.size + 2) 27 (B8 zero32) := by
    refine ⟨_, rfl, (((Below.refl _ _).alloc (Nat.le_refl _) _).alloc (by simp) _).alloc (by simp; omega) _, ?_, ?_, ?_⟩
    · exact (Blk.new w (B8 a).toArray 27).to (((Below.refl _ _).alloc (Nat.le_refl _) _).alloc (by simp) _)
    · have := (Blk.new (w.alloc (.cells (B8 a).toArray 27)) (B8 b).toArray 27).to ((Below.refl _ _).alloc (Nat.le_refl _) (.cells #[.int .u8 0, .int .u8 0, .int .u8 0, .int .u8 0, .int .u8 0, .int .u8 0, .int .u8 0, .int .u8 0, .int .u8 0, .int .u8 0, .int .u8 0, .int .u8 0, .int .u8 0, .int .u8 0, .int .u8 0, .int .u8 0, .int .u8 0, .int .u8 0, .int .u8 0, .int .u8 0, .int .u8 0, .int .u8 0, .int .u8 0, .int .u8 0, .int .u8 0, .int .u8 0, .int .u8 0, .int .u8 0, .int .u8 0, .int .u8 0, .int .u8 0, .int .u8 0] 27))
      simpa using this
    · have := Blk.new ((w.alloc (.cells (B8 a).toArray 27)).alloc (.cells (B8 b).toArray 27)) #[.int .u8 0, .int .u8 0, .int .u8 0, .int .u8 0, .int .u8 0, .int .u8 0, .int .u8 0, .int .u8 0, .int .u8 0, .int .u8 0, .int .u8 0, .int .u8 0, .int .u8 0, .int .u8 0, .int .u8 0, .int .u8 0, .int .u8 0, .int .u8 0, .int .u8 0, .int .u8 0, .int .u8 0, .int .u8 0, .int .u8 0, .int .u8 0, .int .u8 0, .int .u8 0, .int .u8 0, .int .u8 0, .int .u8 0, .int .u8 0, .int .u8 0, .int .u8 0] 27
      rw [show ((w.alloc (.cells (B8 a).toArray 27)).alloc (.cells (B8 b).toArray 27)).heap.size = w.heap.size + 2 from by simp] at this
      exact this
  have e1 := eq_hash a zero32 ha rfl
  have e2 := eq_hash b zero32 hb rfl
  have HA := Lib.hid ha
  have HB := Lib.hid hb
  clear ha hb
  by_cases h1 : a = zero32
  · rw [decide_eq_true h1] at e1
    by_cases h2 : b = zero32
    · rw [decide_eq_true h2] at e2
      have HO : Hid (overS a b = a) := (by show _ = _; unfold overS; rw [if_pos ⟨h1, h2⟩, h1])
      clear h1 h2
      go_enter Try.func48, Try.ntmps48
      go_upto_region 1 with fail
      refine wp_at HW.out ?_
      clear HW
      go_wp2_with (first
        | (refine wpl_load_fld (by rfl) _ _ rfl w.heap.size 0 rfl (B8 a) _ ba.range Try.underlying27 rfl (info_hash HA.out) ?_)
        | (refine wpl_load_fld (by rfl) _ _ rfl (w.heap.size + 1) 0 rfl (B8 b) _ bb.range Try.underlying27 rfl (info_hash HB.out) ?_)
        | (refine wpl_build (by rfl) _ _ rfl _ built_zero_ ?_)
        | (refine wpl_store_fld (by rfl) _ _ _ rfl (w.heap.size + 2) 0 _ _ (B8 a) rfl _ rfl rfl bz (by rw [B8_len, HA.out]; exact Nat.le_refl _) (info_hash HA.out) (B8_one _) ?_
           intro w1 bz1 bu1
           rw [put_all _ _ (by rw [B8_len, HA.out]; rfl)] at bz1))
      refine bodyPost_ret (v := .agg (B8 (overS a b)).toArray) ?_ rfl ⟨rfl, hbw.trans (below_but bu1 (by omega) hbw.size)⟩
      rw [HO.out]
      exact results_blk Try.results48 rfl bz1 Try.underlying27 rfl (info_hash HA.out)
    · rw [decide_eq_false h2] at e2
      have HO : Hid (overS a b = twoS a b) := (by show _ = _; unfold overS; rw [if_neg (fun h => h2 h.2)])
      clear h1 h2
      go_enter Try.func48, Try.ntmps48
      go_upto_region 1 with fail
      refine wp_at HW.out ?_
      clear HW
      go_wp2_with (first
        | (refine wpl_load_fld (by rfl) _ _ rfl w.heap.size 0 rfl (B8 a) _ ba.range Try.underlying27 rfl (info_hash HA.out) ?_)
        | (refine wpl_load_fld (by rfl) _ _ rfl (w.heap.size + 1) 0 rfl (B8 b) _ bb.range Try.underlying27 rfl (info_hash HB.out) ?_)
        | (refine wpl_build (by rfl) _ _ rfl _ built_zero_ ?_))
      refine (refTwo_any a b HA.out HB.out _).mono ?_
      rintro e w1 ⟨rfl, hb1⟩
      have bz1 := bz.to hb1
      have f1 := hbw.trans (hb1.mono hbw.size)
      unfold hv
      go_wp2_with (first
        | (refine wpl_store_fld (by rfl) _ _ _ rfl (w.heap.size + 2) 0 _ _ (B8 (twoS a b)) rfl _ rfl rfl bz1 (by rw [B8_len, twoS_len]; exact Nat.le_refl _) (info_hash (twoS_len _ _)) (B8_one _) ?_
           intro w2 bz2 bu2
           rw [put_all _ _ (by rw [B8_len, twoS_len]; rfl)] at bz2))
      refine bodyPost_ret (v := .agg (B8 (overS a b)).toArray) ?_ rfl ⟨rfl, f1.trans (below_but bu2 (by omega) f1.size)⟩
      rw [HO.out]
      exact results_blk Try.results48 rfl bz2 Try.underlying27 rfl (info_hash (twoS_len _ _))
  · rw [decide_eq_false h1] at e1
    have HO : Hid (overS a b = twoS a b) := (by show _ = _; unfold overS; rw [if_neg (fun h => h1 h.1)])
    clear h1
    go_enter Try.func48, Try.ntmps48
    go_upto_region 1 with fail
    refine wp_at HW.out ?_
    clear HW
    go_wp2_with (first
      | (refine wpl_load_fld (by rfl) _ _ rfl w.heap.size 0 rfl (B8 a) _ ba.range Try.underlying27 rfl (info_hash HA.out) ?_)
      | (refine wpl_load_fld (by rfl) _ _ rfl (w.heap.size + 1) 0 rfl (B8 b) _ bb.range Try.underlying27 rfl (info_hash HB.out) ?_)
      | (refine wpl_build (by rfl) _ _ rfl _ built_zero_ ?_))
    refine (refTwo_any a b HA.out HB.out _).mono ?_
    rintro e w1 ⟨rfl, hb1⟩
    have bz1 := bz.to hb1
    have f1 := hbw.trans (hb1.mono hbw.size)
    unfold hv
    go_wp2_with (first
      | (refine wpl_store_fld (by rfl) _ _ _ rfl (w.heap.size + 2) 0 _ _ (B8 (twoS a b)) rfl _ rfl rfl bz1 (by rw [B8_len, twoS_len]; exact Nat.le_refl _) (info_hash (twoS_len _ _)) (B8_one _) ?_
         intro w2 bz2 bu2
         rw [put_all _ _ (by rw [B8_len, twoS_len]; rfl)] at bz2))
    refine bodyPost_ret (v := .agg (B8 (overS a b)).toArray) ?_ rfl ⟨rfl, f1.trans (below_but bu2 (by omega) f1.size)⟩
    rw [HO.out]
    exact results_blk Try.results48 rfl bz2 Try.underlying27 rfl (info_hash (twoS_len _ _))
end Go.Proofs.Ytakebmpnbdlcoaa
/- The walk of capstanlaw12.Hashes: some sums, unlike ones. -/
set_option linter.unusedSimpArgs false
set_option linter.unusedVariables false
namespace Go.Proofs.Ytakebmpnbdlcoaa
open Go.RowKit
set_option maxRecDepth 100000
theorem fold_fill' (vs : List Value) : ∀ (k : Nat) (cs : Array Value), k + vs.length ≤ cs.size → (List.foldl (fun (cs : Array Value) (x : Value × Nat) => cs.setIfInBounds x.2 x.1) cs (vs.zipIdx k)).toList = cs.toList.take k ++ vs ++ cs.toList.drop (k + vs.length) := by
  induction vs with
  | nil => intro k cs h; simp
  | cons v vs ih =>
    intro k cs h
    simp only [List.zipIdx_cons, List.foldl_cons]
    rw [ih (k + 1) _ (by simp at h ⊢; omega)]
    have hk : k < cs.toList.length := by simp at h ⊢; omega
    simp only [Array.toList_setIfInBounds]
    rw [List.take_set, List.drop_set, if_pos (by omega)]
    rw [List.take_add_one, List.getElem?_eq_getElem hk]
    have e2 : (List.take k cs.toList).length = k := by rw [List.length_take]; omega
    rw [List.set_append_right _ _ (by rw [e2]; exact Nat.le_refl _), e2]
    simp only [Nat.sub_self, Option.toList_some, List.set_cons_zero, List.append_assoc, List.cons_append, List.nil_append, List.length_cons]
    rw [show k + 1 + vs.length = k + (vs.length + 1) from by omega]
theorem fold_sum' (sm : List UInt8) (h : sm.length = 32) : List.foldl (fun (cs : Array Value) (x : Value × Nat) => cs.setIfInBounds x.2 x.1) #[.int .u8 0, .int .u8 0, .int .u8 0, .int .u8 0, .int .u8 0, .int .u8 0, .int .u8 0, .int .u8 0, .int .u8 0, .int .u8 0, .int .u8 0, .int .u8 0, .int .u8 0, .int .u8 0, .int .u8 0, .int .u8 0, .int .u8 0, .int .u8 0, .int .u8 0, .int .u8 0, .int .u8 0, .int .u8 0, .int .u8 0, .int .u8 0, .int .u8 0, .int .u8 0, .int .u8 0, .int .u8 0, .int .u8 0, .int .u8 0, .int .u8 0, .int .u8 0] ((B8 sm).zipIdx) = (B8 sm).toArray := by
  apply Array.toList_inj.1
  rw [fold_fill' (B8 sm) 0 _ (by rw [B8_len, h]; decide), B8_len, h]
  simp
theorem H8_snoc (hs : List (List UInt8)) (h : List UInt8) : H8 (hs ++ [h]) = H8 hs ++ B8 h := by simp [H8]
/-- the sum of a number's two lowest bytes -/
def hashI (i : Nat) : List UInt8 := shaS [UInt8.ofNat (i % 256), UInt8.ofNat (i / 256 % 256)]
def hashL (n : Nat) : List (List UInt8) := (List.range n).map hashI
theorem hashI_len (i : Nat) : (hashI i).length = 32 := shaS_len _
theorem hashL_len (n : Nat) : (hashL n).length = n := by simp [hashL]
theorem hashL_snoc (n : Nat) : hashL (n + 1) = hashL n ++ [hashI n] := by simp [hashL, List.range_succ]
theorem H8_len (hs : List (List UInt8)) (h : ∀ x ∈ hs, x.length = 32) : (H8 hs).length = 32 * hs.length := by
  induction hs with
  | nil => rfl
  | cons a hs ih =>
    have := ih (fun x hx => h x (by simp [hx]))
    have h1 := h a (by simp)
    simp only [H8, List.flatMap_cons, List.length_append, B8_len, List.length_cons] at this ⊢
    omega
theorem hashL_all (n : Nat) : ∀ x ∈ hashL n, x.length = 32 := by
  intro x hx
  obtain ⟨i, _, rfl⟩ := List.mem_map.1 hx
  exact hashI_len i
set_option maxRecDepth 100000 in
set_option maxHeartbeats 1000000 in
theorem hashes_any (n : Nat) (w : World) (hn : n ≤ 4194304) :
    Calls Try.prog 39 #[.int .i64 (n : Int)] w fun e w' => ∃ A c, e = .returned (.slice A n c) ∧ Own w' w.heap.size 27 32 A n c (H8 (hashL n)) ∧ Below w.heap.size w w' := by
  go_enter Try.func39, Try.ntmps39
  go_wp2_with fail
  go_loopw [3, 4] (fun l i wr => ∃ (k : Nat) (A : Option Addr) (c : Nat), i = .int .i64 k ∧ k ≤ n ∧ l = .slice A k c ∧ Own wr w.heap.size 27 32 A k c (H8 (hashL k)) ∧ Below w.heap.size w wr) (fun _ i _ => n - (intOf i).toNat)
  case atStart => exact ⟨0, none, 0, rfl, Nat.zero_le _, rfl, Own.nil_, Below.refl _ _⟩
  case round =>
    obtain ⟨k, A, c, rfl, hk, rfl, ho, hb⟩ := hrel
    by_cases hlt : k < n
    · go_wp2_with fail
      have hb8 : [Value.int .u8 ((k : Int) % 256), Value.int .u8 ((k : Int) / 256 % 256)] = B8 [UInt8.ofNat (k % 256), UInt8.ofNat (k / 256 % 256)] := by
        simp [B8, b8]
      have sB : Sl (wr.alloc (.cells #[.int .u8 ((k : Int) % 256), .int .u8 ((k : Int) / 256 % 256)] 5)) 1 (some ⟨wr.heap.size, 0, none⟩) 2 (B8 [UInt8.ofNat (k % 256), UInt8.ofNat (k / 256 % 256)]) := by
        rw [← hb8]
        exact Sl.new wr #[.int .u8 ((k : Int) % 256), .int .u8 ((k : Int) / 256 % 256)] _ _ 2 rfl
      clear hb8
      have ho1 := ho.alloc (.cells #[.int .u8 ((k : Int) % 256), .int .u8 ((k : Int) / 256 % 256)] 5)
      have hb1 : Below w.heap.size w (wr.alloc (.cells #[.int .u8 ((k : Int) % 256), .int .u8 ((k : Int) / 256 % 256)] 5)) := hb.alloc hb.size _
      refine (refSum_any (some ⟨wr.heap.size, 0, none⟩) 2 2 _ _ sB (by omega)).mono ?_
      rintro e w2 ⟨rfl, hb2⟩
      have ho2 := ho1.to hb2
      have hf2 := hb1.trans (hb2.mono hb1.size)
      have hH : shaS [UInt8.ofNat (k % 256), UInt8.ofNat (k / 256 % 256)] = hashI k := rfl
      rw [hH]
      clear sB ho1 hb1 hb2 hH ho hb
      have HL := Lib.hid (hashI_len k)
      unfold hv
      have hs := hf2.size
      have hbl : (B8 (hashI k)).length = 32 := by rw [B8_len, HL.out]
      go_wp2_with (first
        | (at_builtin
           rw [fold_sum' (hashI k) HL.out]
           refine wpl_push _ _ _ elH rfl rfl rfl ho2 rfl (by rw [List.size_toArray, B8_len, HL.out]) (by intro u hu; exact B8_one _ u (by simpa using hu)) (by omega) (by omega) hs ?_
           intro A3 c3 w3 g3 h3 _))
      have o3 : Own w3 w.heap.size 27 32 A3 (k + 1) c3 (H8 (hashL (k + 1))) := by
        have := g3.own
        rw [hashL_snoc, H8_snoc]
        exact this
      have f3 := hf2.trans h3
      clear g3 h3 ho2 hf2 hs hbl
      go_wp2_with fail
      go_roundw
      case rel => exact ⟨k + 1, A3, c3, by go_num, by omega, rfl, o3, f3⟩
      case measure => simp [intOf]; omega
    · obtain rfl : n = k := by omega
      go_wp2_with fail
      go_ret
      exact ⟨A, c, rfl, ho, hb⟩
end Go.Proofs.Ytakebmpnbdlcoaa
/- Structs held against each other, field by field. -/
set_option linter.unusedSimpArgs false
set_option linter.unusedVariables false
namespace Go.Proofs.Ytakebmpnbdlcoaa
open Go.RowKit
set_option maxRecDepth 100000
theorem wpC_load_f {P : Program} {ops : Array Oper} {Q : Exit → Act → World → Prop} {R : World → World → Prop} {i : Nat} {rest : List (Nat × Bool)} {o : Oper} {a : Act} {w : World} (hrefl : ∀ w, R w w) (ho : nth ops.toList i = some o) (hw : Region.wanted o (yielded ops a.tmps) = true) (ty : TypeId) (x : Operand) (hop : o.op = .load ty x)
    (b off : Nat) (hx : a.eval x = .pointer (some ⟨b, off, none⟩)) (cs : List Value) (d : TypeDesc) (hc : w.rangeAt b off cs) (hu : P.underlying ty = some d) (hd : d.isRow = true) (hi : (P.info? ty).map (·.size) = some cs.length)
    (h : wpC P ops Q R rest (a.put o.dst (.agg cs.toArray)) w) : wpC P ops Q R ((i, false) :: rest) a w := by
  unfold wpC wpOp
  simp only [nth_ops ho, hw, if_true]
  refine .inl ?_
  refine wp_load_mid ty x hop b off hx cs d hc hu hd hi ?_
  exact ⟨hrefl w, h⟩
section
variable {P : Program}
theorem run_part_row {t : TypeId} {ds : TypeDesc} {n : Nat} (hu : P.underlying t = some ds) (hd : ds.isRow = true) (hi : (P.info? t).map (·.size) = some n) (cs : Array Value) (off : Nat) (w : World) :
    (part t cs off).run P w = .ok (.agg (cs.extract off (off + n))) w := by
  cases hq : P.info? t with
  | none => simp [hq] at hi
  | some i =>
    have hs : i.size = n := by simpa [hq] using hi
    have hagg : (isAgg t).run P w = .ok true w := by
      unfold isAgg
      rw [Sem.run_bind, run_underlying hu w]
      cases ds <;> simp_all
    simp [part, Sem.run_bind, hagg, sizeOf, typeInfo, hq, hs]
theorem eqFields_step {d : Nat} {xs ys : Array Value} {f : Field} {fs : List Field} {w : World} {a b : Value} {r : Bool} (hn : f.name ≠ "_") (ha : (part f.type xs f.offset).run P w = .ok a w) (hb : (part f.type ys f.offset).run P w = .ok b w)
    (hq : (Op.equalIn d f.type a b).run P w = .ok r w) : (Op.eqFields d xs ys (f :: fs)).run P w = if r then (Op.eqFields d xs ys fs).run P w else .ok false w := by
  simp only [Op.eqFields, hn, ne_eq, not_false_eq_true, if_true, Sem.run_bind, ha, hb, hq, Result.andThen_ok]
  cases r <;> simp
theorem eqFields_nil {d : Nat} {xs ys : Array Value} {w : World} : (Op.eqFields d xs ys []).run P w = .ok true w := by simp [Op.eqFields]
theorem ext_mid (a b c : List Value) : (a ++ b ++ c).toArray.extract a.length (a.length + b.length) = b.toArray := by
  simp [List.extract_toArray, List.extract]
end
end Go.Proofs.Ytakebmpnbdlcoaa
/- The walk of the document's root of a tree. -/
set_option linter.unusedSimpArgs false
set_option linter.unusedVariables false
namespace Go.Proofs.Ytakebmpnbdlcoaa
open Go.RowKit
set_option maxRecDepth 100000
/-- one level up -/
def halve (l : List (List UInt8)) : List (List UInt8) := (List.range (l.length / 2)).map fun i => overS (l.getD (2 * i) zero32) (l.getD (2 * i + 1) zero32)
/-- the top, so many levels up -/
def rootJ : Nat → List (List UInt8) → List UInt8
  | 0, l => l.getD 0 zero32
  | j + 1, l => rootJ j (halve l)
theorem halve_len (l : List (List UInt8)) : (halve l).length = l.length / 2 := by simp [halve]
theorem halve_all (l : List (List UInt8)) : ∀ x ∈ halve l, x.length = 32 := by
  intro x hx
  obtain ⟨i, _, rfl⟩ := List.mem_map.1 hx
  exact overS_len _ _
/-- the level, half way -/
def part_ (l : List (List UInt8)) (i : Nat) : List (List UInt8) := (halve l).take i ++ l.drop i
theorem part_zero (l : List (List UInt8)) : part_ l 0 = l := by simp [part_]
theorem part_len (l : List (List UInt8)) (i : Nat) (h : i ≤ l.length / 2) : (part_ l i).length = l.length := by
  simp [part_, halve_len]
  omega
theorem part_get (l : List (List UInt8)) (i k : Nat) (hi : i ≤ l.length / 2) (hk : i ≤ k) : (part_ l i)[k]? = l[k]? := by
  unfold part_
  have e : ((halve l).take i).length = i := by rw [List.length_take, halve_len]; omega
  rw [List.getElem?_append_right (by omega), e, List.getElem?_drop]
  congr 1
  omega
theorem part_all (l : List (List UInt8)) (hl : ∀ x ∈ l, x.length = 32) (i : Nat) : ∀ x ∈ part_ l i, x.length = 32 := by
  intro x hx
  rcases List.mem_append.1 hx with h | h
  · exact halve_all l x (List.mem_of_mem_take h)
  · exact hl x (List.mem_of_mem_drop h)
theorem part_next (l : List (List UInt8)) (i : Nat) (hi : i < l.length / 2) (x y : List UInt8) (hx : l[2 * i]? = some x) (hy : l[2 * i + 1]? = some y) : part_ l (i + 1) = (part_ l i).set i (overS x y) := by
  have e : ((halve l).take i).length = i := by rw [List.length_take, halve_len]; omega
  have hh : (halve l)[i]? = some (overS x y) := by
    unfold halve
    rw [List.getElem?_map, List.getElem?_range hi]
    simp [List.getD, hx, hy]
  unfold part_
  rw [List.set_append_right _ _ (by omega), e, List.take_add_one, hh, List.append_assoc]
  congr 1
  have hlt : i < l.length := by omega
  simp only [Nat.sub_self]
  rw [show l.drop i = l[i] :: l.drop (i + 1) from List.drop_eq_getElem_cons hlt]
  rfl
theorem part_end (l : List (List UInt8)) : part_ l (l.length / 2) = halve l ++ l.drop (l.length / 2) := by
  unfold part_
  rw [List.take_of_length_le (by rw [halve_len]; exact Nat.le_refl _)]
theorem H8_app (a b : List (List UInt8)) : H8 (a ++ b) = H8 a ++ H8 b := by simp [H8]
theorem put_H8 (l : List (List UInt8)) (rest : List Value) (i : Nat) (x : List UInt8) (hl : ∀ y ∈ l, y.length = 32) (hx : x.length = 32) (hi : i < l.length) : put_ (H8 l ++ rest) (i * 32) (B8 x) = H8 (l.set i x) ++ rest := by
  have e1 : l = l.take i ++ [l[i]] ++ l.drop (i + 1) := by simp
  have h0 := hl l[i] (List.getElem_mem hi)
  have e2 : H8 l ++ rest = H8 (l.take i) ++ B8 l[i] ++ (H8 (l.drop (i + 1)) ++ rest) := by
    conv => lhs; rw [e1]
    rw [H8_app, H8_app]
    simp [H8]
  have e3 : (H8 (l.take i)).length = i * 32 := by
    have := H8_len (l.take i) (fun y hy => hl y (List.mem_of_mem_take hy))
    rw [List.length_take] at this
    omega
  have := put_mid (H8 (l.take i)) (B8 l[i]) (H8 (l.drop (i + 1)) ++ rest) (B8 x) (by rw [B8_len, B8_len, h0, hx])
  rw [e3] at this
  rw [e2, this, List.set_eq_take_append_cons_drop, if_pos hi, H8_app]
  simp [H8]
theorem H8_at_ : ∀ (hs : List (List UInt8)) (_ : ∀ h ∈ hs, h.length = 32) (rest : List Value) (i : Nat) (h : List UInt8) (_ : hs[i]? = some h), ((H8 hs ++ rest).drop (i * 32)).take (B8 h).length = B8 h := by
  intro hs hl rest i h hi
  obtain ⟨hlt, hq⟩ := List.getElem?_eq_some_iff.1 hi
  have e1 : hs = hs.take i ++ [h] ++ hs.drop (i + 1) := by rw [← hq]; simp
  have e3 : (H8 (hs.take i)).length = i * 32 := by
    have := H8_len (hs.take i) (fun y hy => hl y (List.mem_of_mem_take hy))
    rw [List.length_take] at this
    omega
  have e2 : H8 hs ++ rest = H8 (hs.take i) ++ (B8 h ++ (H8 (hs.drop (i + 1)) ++ rest)) := by
    conv => lhs; rw [e1]
    rw [H8_app, H8_app]
    simp [H8]
  rw [e2, ← e3, List.drop_left, List.take_left]
theorem own_row {w : World} {B : Nat} {e : TypeId} {size n c : Nat} {A : Option Addr} {xs : List Value} (h : Own w B e size A n c xs) (hn : 0 < n) : ∃ g rest, A = some ⟨g, 0, none⟩ ∧ B ≤ g ∧ Blk w g e (xs ++ rest) ∧ (xs ++ rest).length = c * size := by
  rcases h.2 with ⟨hv, _⟩ | ⟨g, cap, cur, hv, hB, hg, h1, h2, h3, h4⟩
  · injection hv; subst_vars; omega
  · injection hv with h5 h6 h7
    subst h5
    subst h7
    have e1 : cur.toList.take (n * size) ++ cur.toList.drop (n * size) = cur.toList := List.take_append_drop _ _
    refine ⟨g, cur.toList.drop (n * size), rfl, hB, ?_, ?_⟩
    · unfold Blk
      rw [← h4, e1]
      exact hg
    · rw [← h4, e1]
      simpa using h3
theorem rep_get (m : Nat) (u : Value) (k : Nat) (h : k < m) : ((List.replicate m u).toArray)[k]! = u := by simp [h]
theorem rep_made (n : Nat) : (madeCells (Value.agg #[.int .u8 0, .int .u8 0, .int .u8 0, .int .u8 0, .int .u8 0, .int .u8 0, .int .u8 0, .int .u8 0, .int .u8 0, .int .u8 0, .int .u8 0, .int .u8 0, .int .u8 0, .int .u8 0, .int .u8 0, .int .u8 0, .int .u8 0, .int .u8 0, .int .u8 0, .int .u8 0, .int .u8 0, .int .u8 0, .int .u8 0, .int .u8 0, .int .u8 0, .int .u8 0, .int .u8 0, .int .u8 0, .int .u8 0, .int .u8 0, .int .u8 0, .int .u8 0]).cells (n * 32)).toList = H8 (List.replicate n zero32) := by
  have e1 : (madeCells (Value.agg #[.int .u8 0, .int .u8 0, .int .u8 0, .int .u8 0, .int .u8 0, .int .u8 0, .int .u8 0, .int .u8 0, .int .u8 0, .int .u8 0, .int .u8 0, .int .u8 0, .int .u8 0, .int .u8 0, .int .u8 0, .int .u8 0, .int .u8 0, .int .u8 0, .int .u8 0, .int .u8 0, .int .u8 0, .int .u8 0, .int .u8 0, .int .u8 0, .int .u8 0, .int .u8 0, .int .u8 0, .int .u8 0, .int .u8 0, .int .u8 0, .int .u8 0, .int .u8 0]).cells (n * 32)).toList = List.replicate (n * 32) (Value.int .u8 0) := by
    refine List.ext_getElem? fun k => ?_
    unfold madeCells
    simp only [Array.toList_map, Array.toList_range, List.getElem?_map, List.getElem?_replicate]
    by_cases hk : k < n * 32
    · rw [List.getElem?_range hk, if_pos hk]
      have h32 : k % 32 < 32 := Nat.mod_lt _ (by decide)
      have key : (Value.agg #[.int .u8 0, .int .u8 0, .int .u8 0, .int .u8 0, .int .u8 0, .int .u8 0, .int .u8 0, .int .u8 0, .int .u8 0, .int .u8 0, .int .u8 0, .int .u8 0, .int .u8 0, .int .u8 0, .int .u8 0, .int .u8 0, .int .u8 0, .int .u8 0, .int .u8 0, .int .u8 0, .int .u8 0, .int .u8 0, .int .u8 0, .int .u8 0, .int .u8 0, .int .u8 0, .int .u8 0, .int .u8 0, .int .u8 0, .int .u8 0, .int .u8 0, .int .u8 0]).cells = (List.replicate 32 (Value.int .u8 0)).toArray := rfl
      have hsz : (Value.agg #[.int .u8 0, .int .u8 0, .int .u8 0, .int .u8 0, .int .u8 0, .int .u8 0, .int .u8 0, .int .u8 0, .int .u8 0, .int .u8 0, .int .u8 0, .int .u8 0, .int .u8 0, .int .u8 0, .int .u8 0, .int .u8 0, .int .u8 0, .int .u8 0, .int .u8 0, .int .u8 0, .int .u8 0, .int .u8 0, .int .u8 0, .int .u8 0, .int .u8 0, .int .u8 0, .int .u8 0, .int .u8 0, .int .u8 0, .int .u8 0, .int .u8 0, .int .u8 0]).cells.size = 32 := rfl
      simp only [Option.map_some, hsz]
      rw [key]
      congr 1
      exact rep_get 32 _ _ h32
    · rw [if_neg hk, List.getElem?_eq_none (by simp; omega)]
      rfl
  rw [e1]
  clear e1
  induction n with
  | zero => rfl
  | succ n ih =>
    rw [List.replicate_succ', H8_snoc, ← ih, Nat.succ_mul, ← List.replicate_append_replicate]
    rfl
set_option maxRecDepth 100000 in
set_option maxHeartbeats 1000000 in
theorem leaves_nil (w : World) : Calls Try.prog 47 #[.slice none 0 0] w (RSl w 27 32 (H8 (List.replicate 256 zero32))) := by
  obtain ⟨i, hi, hz0, hz1, hz2⟩ := info_parts (P := Try.prog) (e := 27) (z := .agg #[.int .u8 0, .int .u8 0, .int .u8 0, .int .u8 0, .int .u8 0, .int .u8 0, .int .u8 0, .int .u8 0, .int .u8 0, .int .u8 0, .int .u8 0, .int .u8 0, .int .u8 0, .int .u8 0, .int .u8 0, .int .u8 0, .int .u8 0, .int .u8 0, .int .u8 0, .int .u8 0, .int .u8 0, .int .u8 0, .int .u8 0, .int .u8 0, .int .u8 0, .int .u8 0, .int .u8 0, .int .u8 0, .int .u8 0, .int .u8 0, .int .u8 0, .int .u8 0]) (size := 32) (bytes := 32) (by kernel_rfl)
  have hi' := Lib.hid hi
  have hz0' := Lib.hid hz0
  have hz1' := Lib.hid hz1
  have hz2' := Lib.hid hz2
  clear hi hz0 hz1 hz2
  go_enter Try.func47, Try.ntmps47
  go_wp2_with (first
    | (at_make
       refine wpList_make_full _ rfl _ _ _ rfl w.heap.size _ i _ 32 Try.underlying52 hi'.out hz0'.out hz1'.out _ _ 256 256 256 rfl rfl rfl rfl (by rw [hz2'.out]; decide) (by decide) (Nat.le_refl _) ?_
       intro w1 ho1 hg1))
  rw [rep_made] at ho1
  have ho : Own w1 w.heap.size 27 32 (some ⟨w.heap.size, 0, none⟩) 256 256 (H8 (List.replicate 256 zero32)) := ho1
  have hb : Below w.heap.size w w1 := ⟨hg1.os, hg1.tape, hg1.output, hg1.size, fun k hk => hg1.block k hk (by simp)⟩
  clear ho1 hg1 hi' hz0' hz1' hz2'
  go_loopw [4] (fun i wr => i = .int .i64 ((0 : Nat) : Int) ∧ wr = w1) (fun _ _ => 0)
  case atStart => exact ⟨rfl, rfl⟩
  case round =>
    obtain ⟨rfl, rfl⟩ := hrel
    go_wp2_with fail
    go_ret
    exact RSl.mk ho hb
/-- the table's row of sums -/
theorem info_h : (Try.prog.info? 27).map (·.size) = some 32 := by kernel_rfl
set_option maxRecDepth 100000 in
set_option maxHeartbeats 2000000 in
theorem refRoot_of (v : Value) (ls : List (List UInt8)) (hl : ls.length = 256) (hall : ∀ x ∈ ls, x.length = 32) (w : World) (HL : ∀ W, Below w.heap.size w W → Calls Try.prog 47 #[v] W (RSl W 27 32 (H8 ls))) :
    Calls Try.prog 22 #[v] w fun e w' => e = .returned (hv (rootJ 8 ls)) ∧ Below w.heap.size w w' := by
  obtain ⟨W, HW, hbw, bz⟩ : ∃ W, Hid (W = w.alloc (.cells #[.int .u8 0, .int .u8 0, .int .u8 0, .int .u8 0, .int .u8 0, .int .u8 0, .int .u8 0, .int .u8 0, .int .u8 0, .int .u8 0, .int .u8 0, .int .u8 0, .int .u8 0, .int .u8 0, .int .u8 0, .int .u8 0, .int .u8 0, .int .u8 0, .int .u8 0, .int .u8 0, .int .u8 0, .int .u8 0, .int .u8 0, .int .u8 0, .int .u8 0, .int .u8 0, .int .u8 0, .int .u8 0, .int .u8 0, .int .u8 0, .int .u8 0, .int .u8 0] 27)) ∧ Below w.heap.size w W ∧ Blk W w.heap.size 27 (B8 zero32) :=
    ⟨_, rfl, (Below.refl _ _).alloc (Nat.le_refl _) _, Blk.new w #[.int .u8 0, .int .u8 0, .int .u8 0, .int .u8 0, .int .u8 0, .int .u8 0, .int .u8 0, .int .u8 0, .int .u8 0, .int .u8 0, .int .u8 0, .int .u8 0, .int .u8 0, .int .u8 0, .int .u8 0, .int .u8 0, .int .u8 0, .int .u8 0, .int .u8 0, .int .u8 0, .int .u8 0, .int .u8 0, .int .u8 0, .int .u8 0, .int .u8 0, .int .u8 0, .int .u8 0, .int .u8 0, .int .u8 0, .int .u8 0, .int .u8 0, .int .u8 0] 27⟩
  have H := Lib.hid (HL W hbw)
  have HL8 := Lib.hid hl
  have HAL := Lib.hid hall
  clear HL hl hall
  go_enter Try.func22, Try.ntmps22
  go_upto_region 1 with fail
  refine wp_at HW.out ?_
  clear HW
  go_wp2_with fail
  refine H.out.mono ?_
  rintro e w1 ⟨A1, n1, c1, rfl, ho1, hb1⟩
  obtain rfl : 256 = n1 := by
    have h1 := ho1.len
    have h2 := H8_len ls HAL.out
    rw [HL8.out] at h2
    omega
  obtain ⟨g, rest, rfl, hg, bk, hlen⟩ := own_row ho1 (by decide)
  have hc := ho1.le
  have bz1 := bz.to hb1
  have f1 := hbw.trans (hb1.mono hbw.size)
  have hgz : w.heap.size < g := Nat.lt_of_lt_of_le bz.lt hg
  clear bz hb1 hbw ho1 H hg
  go_wp2_with fail
  go_loopw [3, 4] (fun l _ wr => ∃ (j L : Nat) (cur : List (List UInt8)) (rest : List Value), L = 2 ^ j ∧ j ≤ 8 ∧ l = .slice (some ⟨g, 0, none⟩) L c1 ∧ cur.length = L ∧ (∀ x ∈ cur, x.length = 32) ∧ rootJ 8 ls = rootJ j cur ∧ Blk wr g 27 (H8 cur ++ rest) ∧ Blk wr w.heap.size 27 (B8 zero32) ∧ Below w.heap.size w wr) (fun l _ _ => match l with | .slice _ n _ => n | _ => 0)
  case atStart => exact ⟨8, 256, ls, rest, rfl, by omega, rfl, HL8.out, HAL.out, rfl, bk, bz1, f1⟩
  case round =>
    clear bk bz1 f1
    obtain ⟨j, L, cur, rest, hL, hj, rfl, hcl, hca, hroot, bk, bz, hf⟩ := hrel
    have HLj := Lib.hid hL
    have HCL := Lib.hid hcl
    have HCA := Lib.hid hca
    have HR := Lib.hid hroot
    clear hL hcl hca hroot
    have hL1 : 1 ≤ L := by rw [HLj.out]; exact Nat.one_le_two_pow
    have hL256 : L ≤ 256 := by rw [HLj.out]; exact Nat.pow_le_pow_right (by decide) hj
    by_cases h1 : 1 < L
    · obtain ⟨j', rfl⟩ : ∃ j', j = j' + 1 := ⟨j - 1, by
        rcases j with _ | j
        · have := HLj.out; omega
        · omega⟩
      obtain ⟨M, hM⟩ : ∃ M, M = 2 ^ j' := ⟨_, rfl⟩
      have hLM : L = 2 * M := by rw [HLj.out, hM, Nat.pow_succ]; omega
      have HM := Lib.hid hM
      have u1 : ((L : Nat) : Int) / 2 = (M : Int) := by omega
      have hh : cur.length / 2 = M := by rw [HCL.out]; omega
      have HH := Lib.hid hh
      have tb : decide ((1 : Int) < (L : Int)) = true := by simp; omega
      have l2 : 2 * M ≤ L := by omega
      have l3 : L ≤ 2 * M := by omega
      clear hM hh hLM
      go_wp2_with fail
      obtain ⟨wo, rfl⟩ : ∃ wo : World, wo = wr := ⟨_, rfl⟩
      go_loopw [4] (fun i wr => ∃ i' : Nat, i = .int .i64 i' ∧ i' ≤ M ∧ Blk wr g 27 (H8 (part_ cur i') ++ rest) ∧ Blk wr w.heap.size 27 (B8 zero32) ∧ Below w.heap.size w wr) (fun i _ => M - (intOf i).toNat)
      case atStart => exact ⟨0, rfl, Nat.zero_le _, by rw [part_zero]; exact bk, bz, hf⟩
      case round =>
        clear bk bz hf
        obtain ⟨i, rfl, hi, bk, bz, hf⟩ := hrel
        by_cases hlt : i < M
        · obtain ⟨x, hx⟩ : ∃ x, cur[2 * i]? = some x := ⟨_, List.getElem?_eq_getElem (by rw [HCL.out]; omega)⟩
          obtain ⟨y, hy⟩ : ∃ y, cur[2 * i + 1]? = some y := ⟨_, List.getElem?_eq_getElem (by rw [HCL.out]; omega)⟩
          have xl := HCA.out x (List.mem_of_getElem? hx)
          have yl := HCA.out y (List.mem_of_getElem? hy)
          have pa := part_all cur HCA.out i
          have px : (part_ cur i)[2 * i]? = some x := by rw [part_get cur i (2 * i) (by rw [HH.out]; omega) (by omega)]; exact hx
          have py : (part_ cur i)[2 * i + 1]? = some y := by rw [part_get cur i (2 * i + 1) (by rw [HH.out]; omega) (by omega)]; exact hy
          have pl := part_len cur i (by rw [HH.out]; omega)
          rw [HCL.out] at pl
          have hp := put_H8 (part_ cur i) rest i (overS x y) pa (overS_len x y) (by rw [pl]; omega)
          rw [← part_next cur i (by rw [HH.out]; omega) x y hx hy] at hp
          have rx := (show Blk wr.drew g 27 (H8 (part_ cur i) ++ rest) from bk).sub (2 * i * 32) (B8 x) (H8_at_ _ pa rest (2 * i) x px)
          have ry := (show Blk wr.drew g 27 (H8 (part_ cur i) ++ rest) from bk).sub ((2 * i + 1) * 32) (B8 y) (H8_at_ _ pa rest (2 * i + 1) y py)
          have hlen : (i * 32 + 32 ≤ (H8 (part_ cur i) ++ rest).length) := by
            have := H8_len _ pa
            rw [pl] at this
            rw [List.length_append]
            omega
          have HP := Lib.hid hp
          have HLEN := Lib.hid hlen
          have XL := Lib.hid xl
          have YL := Lib.hid yl
          clear hx hy pa px py pl hp hlen xl yl
          have t1 : (i : Int) < (M : Int) := by omega
          have k1 : IntKind.i64.wrap (2 * (i : Int)) = 2 * (i : Int) := IntWalk.i64_in _ (by omega)
          have k2 : IntKind.i64.wrap (2 * (i : Int) + 1) = 2 * (i : Int) + 1 := IntWalk.i64_in _ (by omega)
          have k3 : 0 ≤ 2 * (i : Int) := by omega
          have k4 : 2 * (i : Int) < (L : Int) := by omega
          have k5 : 0 ≤ 2 * (i : Int) + 1 := by omega
          have k6 : 2 * (i : Int) + 1 < (L : Int) := by omega
          have k7 : (2 * (i : Int)).toNat = 2 * i := by omega
          have k8 : (2 * (i : Int) + 1).toNat = 2 * i + 1 := by omega
          have k9 : (i : Int) < (L : Int) := by omega
          go_wp2_with fail
          refine wp_region_T [0, 1, 2, 3, 4, 5, 7, 8, 9, 10, 11] 6 12 [(12, false), (13, false), (14, false), (15, false)] [(6, false), (13, false), (14, false), (15, false)] (fun _ _ => True) (by kernel_rfl) (by kernel_rfl) (by kernel_rfl) (by decide) (by decide) (fun _ => trivial) (fun _ _ _ _ _ => trivial) (by intro d v c a w h; cases d <;> exact h) ?_
          repeat (first | (refine wpT_quiet (v := ?_) rfl (by rfl) ?_ ?_; rotate_left; (· (intro w' hw'; go_simp; try with_reducible rfl)); simp only [Act.put, List.setIfInBounds_toArray, List.set_cons_zero, List.set_cons_succ]) | (refine wpT_skip rfl (by rfl) ?_; simp only [Act.put, List.setIfInBounds_toArray, List.set_cons_zero, List.set_cons_succ]))
          refine wpT_nil ?_ ?_
          · refine wpC_load_f (fun _ => trivial) rfl (by rfl) _ _ rfl g (2 * i * 32) rfl (B8 x) _ rx Try.underlying27 rfl (info_hash XL.out) ?_
            simp only [Act.put, List.setIfInBounds_toArray, List.set_cons_zero, List.set_cons_succ]
            refine wpC_load_f (fun _ => trivial) rfl (by rfl) _ _ rfl g ((2 * i + 1) * 32) rfl (B8 y) _ ry Try.underlying27 rfl (info_hash YL.out) ?_
            simp only [Act.put, List.setIfInBounds_toArray, List.set_cons_zero, List.set_cons_succ]
            clear rx ry
            (refine wpC_loud rfl (by rfl) ?_; intro K hK; go_simp)
            refine (refOver_any x y XL.out YL.out _).mono ?_
            rintro e w2 ⟨rfl, hb2⟩
            (refine hK.out _ _ (trivial) ?_; clear hK K; try simp only [Act.put, List.setIfInBounds_toArray, List.set_cons_zero, List.set_cons_succ])
            unfold hv
            have bk2 := Blk.to (w := wr.drew) bk hb2
            have bz2 := Blk.to (w := wr.drew) bz hb2
            have f2 := hf.drew.trans (hb2.mono hf.drew.size)
            repeat (first | (refine wpC_quiet (v := ?_) rfl (by rfl) ?_ ?_; rotate_left; (· (intro w' hw'; go_simp; try with_reducible rfl)); simp only [Act.put, List.setIfInBounds_toArray, List.set_cons_zero, List.set_cons_succ]) | (refine wpC_val (v := ?_) (fun _ => trivial) rfl (by rfl) ?_ ?_; rotate_left; (· (go_simp; try with_reducible rfl)); simp only [Act.put, List.setIfInBounds_toArray, List.set_cons_zero, List.set_cons_succ]) | (refine wpC_skip rfl (by rfl) ?_; simp only [Act.put, List.setIfInBounds_toArray, List.set_cons_zero, List.set_cons_succ]) | (refine wpC_skip' (fun _ => trivial) rfl (by rfl) ?_; simp only [Act.put, List.setIfInBounds_toArray, List.set_cons_zero, List.set_cons_succ]))
            refine wpC_store_fld rfl (by rfl) _ _ _ rfl g (i * 32) _ _ (B8 (overS x y)) rfl _ rfl rfl bk2 (by rw [B8_len, overS_len]; exact HLEN.out) (info_hash (overS_len x y)) (B8_one _) (fun _ _ => trivial) ?_
            intro w3 bk3 bu3
            rw [HP.out] at bk3
            have bz3 := bz2.but bu3 (by simp; omega)
            have f3 := f2.trans (below_but bu3 (by omega) f2.size)
            clear bk bz hf hb2 bk2 bz2 f2 bu3 k1 k2 k3 k4 k5 k6 k7 k8 k9
            simp only [Act.put, List.setIfInBounds_toArray, List.set_cons_zero, List.set_cons_succ]
            refine wpC_nil ?_
            go_wp2_with fail
            go_roundw
            case rel => exact ⟨i + 1, by go_num, by omega, bk3, bz3, f3⟩
            case measure => simp [intOf]; omega
          · refine wpC_load_f (fun _ => trivial) rfl (by rfl) _ _ rfl g ((2 * i + 1) * 32) rfl (B8 y) _ ry Try.underlying27 rfl (info_hash YL.out) ?_
            simp only [Act.put, List.setIfInBounds_toArray, List.set_cons_zero, List.set_cons_succ]
            refine wpC_load_f (fun _ => trivial) rfl (by rfl) _ _ rfl g (2 * i * 32) rfl (B8 x) _ rx Try.underlying27 rfl (info_hash XL.out) ?_
            simp only [Act.put, List.setIfInBounds_toArray, List.set_cons_zero, List.set_cons_succ]
            clear rx ry
            (refine wpC_loud rfl (by rfl) ?_; intro K hK; go_simp)
            refine (refOver_any x y XL.out YL.out _).mono ?_
            rintro e w2 ⟨rfl, hb2⟩
            (refine hK.out _ _ (trivial) ?_; clear hK K; try simp only [Act.put, List.setIfInBounds_toArray, List.set_cons_zero, List.set_cons_succ])
            unfold hv
            have bk2 := Blk.to (w := wr.drew) bk hb2
            have bz2 := Blk.to (w := wr.drew) bz hb2
            have f2 := hf.drew.trans (hb2.mono hf.drew.size)
            repeat (first | (refine wpC_quiet (v := ?_) rfl (by rfl) ?_ ?_; rotate_left; (· (intro w' hw'; go_simp; try with_reducible rfl)); simp only [Act.put, List.setIfInBounds_toArray, List.set_cons_zero, List.set_cons_succ]) | (refine wpC_val (v := ?_) (fun _ => trivial) rfl (by rfl) ?_ ?_; rotate_left; (· (go_simp; try with_reducible rfl)); simp only [Act.put, List.setIfInBounds_toArray, List.set_cons_zero, List.set_cons_succ]) | (refine wpC_skip rfl (by rfl) ?_; simp only [Act.put, List.setIfInBounds_toArray, List.set_cons_zero, List.set_cons_succ]) | (refine wpC_skip' (fun _ => trivial) rfl (by rfl) ?_; simp only [Act.put, List.setIfInBounds_toArray, List.set_cons_zero, List.set_cons_succ]))
            refine wpC_store_fld rfl (by rfl) _ _ _ rfl g (i * 32) _ _ (B8 (overS x y)) rfl _ rfl rfl bk2 (by rw [B8_len, overS_len]; exact HLEN.out) (info_hash (overS_len x y)) (B8_one _) (fun _ _ => trivial) ?_
            intro w3 bk3 bu3
            rw [HP.out] at bk3
            have bz3 := bz2.but bu3 (by simp; omega)
            have f3 := f2.trans (below_but bu3 (by omega) f2.size)
            clear bk bz hf hb2 bk2 bz2 f2 bu3 k1 k2 k3 k4 k5 k6 k7 k8 k9
            simp only [Act.put, List.setIfInBounds_toArray, List.set_cons_zero, List.set_cons_succ]
            refine wpC_nil ?_
            go_wp2_with fail
            go_roundw
            case rel => exact ⟨i + 1, by go_num, by omega, bk3, bz3, f3⟩
            case measure => simp [intOf]; omega
        · obtain rfl : M = i := by omega
          have hpe := part_end cur
          rw [HH.out] at hpe
          rw [hpe, H8_app, List.append_assoc] at bk
          have hroot : rootJ 8 ls = rootJ j' (halve cur) := HR.out
          have HRO := Lib.hid hroot
          have hhl := halve_len cur
          rw [HH.out] at hhl
          have HHL := Lib.hid hhl
          clear hpe hroot hhl
          go_wp2_with fail
          go_roundw
          case rel => exact ⟨j', M, halve cur, _, HM.out, by omega, rfl, HHL.out, halve_all cur, HRO.out, bk, bz, hf⟩
          case measure => show M < L; omega
    · obtain rfl : 1 = L := by omega
      obtain rfl : j = 0 := by
        rcases j with _ | j
        · rfl
        · have := HLj.out; have := Nat.one_le_two_pow (n := j); rw [Nat.pow_succ] at *; omega
      have hx : ∃ x, cur = [x] := by
        have := HCL.out
        rcases cur with _ | ⟨x, _ | ⟨y, cur⟩⟩
        · simp at this
        · exact ⟨x, rfl⟩
        · simp at this
      obtain ⟨x, rfl⟩ := hx
      have xl := HCA.out x (by simp)
      have rx := bk.sub 0 (B8 x) (by simp [H8])
      have HX := Lib.hid xl
      have IX := Lib.hid (info_hash xl)
      clear xl
      go_wp2_with (first
        | (refine wpl_load_fld (by rfl) _ _ rfl g 0 rfl (B8 x) _ rx Try.underlying27 rfl IX.out ?_)
        | (refine wpl_store_fld (by rfl) _ _ _ rfl w.heap.size 0 _ _ (B8 x) rfl _ rfl rfl bz (by rw [B8_len, HX.out]; exact Nat.le_refl _) IX.out (B8_one _) ?_
           intro w2 bz2 bu2
           rw [put_all _ _ (by rw [B8_len, HX.out]; rfl)] at bz2))
      refine bodyPost_ret (v := .agg (B8 (rootJ 8 ls)).toArray) ?_ rfl ⟨rfl, hf.trans (below_but bu2 (Nat.le_refl _) hf.size)⟩
      rw [HR.out]
      exact results_blk Try.results22 rfl bz2 Try.underlying27 rfl IX.out
end Go.Proofs.Ytakebmpnbdlcoaa
/- Plain law: how a number is written, seven bits a byte. -/
set_option linter.unusedSimpArgs false
set_option linter.unusedVariables false
namespace Go.Proofs.Ytakebmpnbdlcoaa

def enc (u : Nat) : List UInt8 := if u < 128 then [UInt8.ofNat u] else UInt8.ofNat (u % 128 + 128) :: enc (u / 128)
termination_by u
decreasing_by omega

theorem enc_lo {u : Nat} (h : u < 128) : enc u = [UInt8.ofNat u] := by rw [enc, if_pos h]
theorem enc_hi {u : Nat} (h : ¬ u < 128) : enc u = UInt8.ofNat (u % 128 + 128) :: enc (u / 128) := by rw [enc, if_neg h]

/-- A number without a sign, the sign as its last bit. -/
def zig (n : Int) : Nat := if n < 0 then (-2 * n - 1).toNat else (2 * n).toNat

theorem zig_lt {n : Int} (h1 : -9223372036854775808 ≤ n) (h2 : n < 9223372036854775808) : zig n < 18446744073709551616 := by
  unfold zig; split <;> omega

theorem enc_len : ∀ (k u : Nat), u < 128 ^ (k + 1) → (enc u).length ≤ k + 1
  | 0, u, h => by rw [enc_lo (by simpa using h)]; simp
  | k + 1, u, h => by
    by_cases h1 : u < 128
    · rw [enc_lo h1]; simp
    · rw [enc_hi h1, List.length_cons]
      have := enc_len k (u / 128) (Nat.div_lt_of_lt_mul (by rw [Nat.pow_succ] at h; omega))
      omega
theorem enc_le {u : Nat} (h : u < 18446744073709551616) : (enc u).length ≤ 10 := enc_len 9 u (Nat.lt_of_lt_of_le h (by decide))
theorem enc_pos (u : Nat) : 1 ≤ (enc u).length := by
  by_cases h : u < 128
  · rw [enc_lo h]; simp
  · rw [enc_hi h]; simp
theorem enc_length : ∀ (j u : Nat), (j = 0 ∨ 128 ^ j ≤ u) → u < 128 ^ (j + 1) → (enc u).length = j + 1
  | 0, u, _, h => by rw [enc_lo (by simpa using h)]; simp
  | j + 1, u, h, h2 => by
    have h : 128 ^ (j + 1) ≤ u := h.resolve_left (by omega)
    have hp : 0 < 128 ^ j := Nat.pow_pos (by decide)
    have h128 : ¬ u < 128 := by rw [Nat.pow_succ] at h; omega
    rw [enc_hi h128, List.length_cons, enc_length j (u / 128) ?_ (Nat.div_lt_of_lt_mul (by rw [Nat.pow_succ] at h2; omega))]
    right
    rw [Nat.le_div_iff_mul_le (by decide)]
    rwa [Nat.pow_succ] at h
theorem pow128 (j : Nat) : 128 ^ j = 2 ^ (7 * j) := by rw [Nat.pow_mul]
theorem enc_two (k : Nat) : (enc (zig ((2 ^ k : Nat) : Int))).length = (k + 8) / 7 := by
  have hz : zig ((2 ^ k : Nat) : Int) = 2 ^ (k + 1) := by unfold zig; rw [if_neg (by have := Int.natCast_nonneg (2 ^ k); omega)]; rw [Nat.pow_succ]; omega
  rw [hz, enc_length ((k + 1) / 7) (2 ^ (k + 1)) (by right; rw [pow128]; exact Nat.pow_le_pow_right (by decide) (by omega)) (by rw [pow128]; exact Nat.pow_lt_pow_right (by decide) (by omega))]
  omega
theorem enc_neg_two (k : Nat) : (enc (zig (-((2 ^ k : Nat) : Int)))).length = (k + 7) / 7 := by
  have hp : 1 ≤ 2 ^ k := Nat.one_le_two_pow
  have hz : zig (-((2 ^ k : Nat) : Int)) = 2 ^ (k + 1) - 1 := by unfold zig; rw [if_pos (by omega), Nat.pow_succ]; omega
  have h1 : 2 ^ (7 * (k / 7)) ≤ 2 ^ k := Nat.pow_le_pow_right (by decide) (by omega)
  have h2 : 2 ^ (k + 1) ≤ 2 ^ (7 * (k / 7 + 1)) := Nat.pow_le_pow_right (by decide) (by omega)
  have h3 : 2 ^ (k + 1) = 2 ^ k * 2 := Nat.pow_succ 2 k
  rw [hz, enc_length (k / 7) (2 ^ (k + 1) - 1) (by right; rw [pow128]; omega) (by rw [pow128]; omega)]
  omega
end Go.Proofs.Ytakebmpnbdlcoaa
/- Plain law of trees of accounts: leaves, levels, proofs, what a leaf leads to. -/
set_option linter.unusedSimpArgs false
set_option linter.unusedVariables false
namespace Go.Proofs.Ytakebmpnbdlcoaa
/-- an account -/
structure Acc where
  id : Int
  bal : Int
  non : Int
  dat : Int
  deriving DecidableEq
def Acc.none (a : Acc) : Prop := a.bal = 0 ∧ a.non = 0 ∧ a.dat = 0
instance (a : Acc) : Decidable a.none := inferInstanceAs (Decidable (_ ∧ _ ∧ _))
/-- its sum -/
def leafS (a : Acc) : List UInt8 := if a.none then zero32 else shaS ([0] ++ enc (zig a.id) ++ enc (zig a.bal) ++ enc (zig a.non) ++ enc (zig a.dat))
theorem leafS_len (a : Acc) : (leafS a).length = 32 := by
  unfold leafS
  split
  · rfl
  · exact shaS_len _
def setL (l : List (List UInt8)) (a : Acc) : List (List UInt8) := if 0 ≤ a.id ∧ a.id < 256 then l.set a.id.toNat (leafS a) else l
/-- all leaves -/
def leavesL (s : List Acc) : List (List UInt8) := s.foldl setL (List.replicate 256 zero32)
theorem setL_len (l : List (List UInt8)) (a : Acc) : (setL l a).length = l.length := by
  unfold setL
  split <;> simp
theorem setL_all {l : List (List UInt8)} (a : Acc) (h : ∀ x ∈ l, x.length = 32) : ∀ x ∈ setL l a, x.length = 32 := by
  unfold setL
  split
  · intro x hx
    rcases List.mem_or_eq_of_mem_set hx with h1 | h1
    · exact h x h1
    · rw [h1]; exact leafS_len a
  · exact h
theorem fold_len : ∀ (s : List Acc) (l : List (List UInt8)), (s.foldl setL l).length = l.length
  | [], l => rfl
  | a :: s, l => by rw [List.foldl_cons, fold_len s, setL_len]
theorem fold_all : ∀ (s : List Acc) (l : List (List UInt8)), (∀ x ∈ l, x.length = 32) → ∀ x ∈ s.foldl setL l, x.length = 32
  | [], l, h => h
  | a :: s, l, h => by rw [List.foldl_cons]; exact fold_all s _ (setL_all a h)
theorem leavesL_len (s : List Acc) : (leavesL s).length = 256 := by unfold leavesL; rw [fold_len, List.length_replicate]
theorem leavesL_all (s : List Acc) : ∀ x ∈ leavesL s, x.length = 32 := fold_all s _ (by intro x hx; rw [List.eq_of_mem_replicate hx]; rfl)
/-- so many levels up -/
def lev : Nat → List (List UInt8) → List (List UInt8)
  | 0, l => l
  | k + 1, l => halve (lev k l)
theorem lev_in : ∀ (k : Nat) (l : List (List UInt8)), lev (k + 1) l = lev k (halve l)
  | 0, l => rfl
  | k + 1, l => by
    show halve (lev (k + 1) l) = halve (lev k (halve l))
    rw [lev_in k l]
theorem lev_len : ∀ (k j : Nat) (l : List (List UInt8)), l.length = 2 ^ (k + j) → (lev k l).length = 2 ^ j
  | 0, j, l, h => by simpa [lev] using h
  | k + 1, j, l, h => by
    have := lev_len k (j + 1) l (by rw [h]; congr 1; omega)
    show (halve (lev k l)).length = _
    rw [halve_len, this, Nat.pow_succ]
    omega
theorem lev_all (k : Nat) (l : List (List UInt8)) (h : ∀ x ∈ l, x.length = 32) : ∀ x ∈ lev k l, x.length = 32 := by
  cases k with
  | zero => exact h
  | succ k => exact halve_all _
theorem rootJ_lev : ∀ (k : Nat) (l : List (List UInt8)), rootJ k l = (lev k l).getD 0 zero32
  | 0, l => rfl
  | k + 1, l => by
    show rootJ k (halve l) = _
    rw [rootJ_lev k (halve l), lev_in]
/-- what stands at a level beside a way up -/
def sib (k id : Nat) (l : List (List UInt8)) : List UInt8 := (lev k l).getD ((id / 2 ^ k) ^^^ 1) zero32
/-- the sums beside a way up, j levels -/
def proveJ (j : Nat) (l : List (List UInt8)) (id : Nat) : List (List UInt8) := (List.range j).map fun k => sib k id l
/-- where a leaf leads to -/
def upL : List (List UInt8) → Nat → List UInt8 → List UInt8
  | [], _, h => h
  | x :: p, id, h => upL p (id / 2) (if id % 2 = 0 then overS h x else overS x h)
theorem xor_one (n : Nat) : n ^^^ 1 = if n % 2 = 0 then n + 1 else n - 1 := by
  have h1 : (n ^^^ 1) / 2 = n / 2 := by rw [Nat.xor_div_two]; simp
  have h2 : (n ^^^ 1) % 2 = (n % 2 + 1) % 2 := by
    have := Nat.xor_mod_two_pow (a := n) (b := 1) (n := 1)
    rw [Nat.pow_one] at this
    rw [this]
    rcases Nat.mod_two_eq_zero_or_one n with h | h
    · rw [h]
      decide
    · rw [h]
      decide
  split <;> omega
theorem halve_at (l : List (List UInt8)) (i : Nat) (h : 2 * i + 1 < l.length) : (halve l).getD i zero32 = overS (l.getD (2 * i) zero32) (l.getD (2 * i + 1) zero32) := by
  unfold halve
  rw [List.getD_eq_getElem?_getD, List.getElem?_map, List.getElem?_range (by omega)]
  rfl
theorem sib_up (k id : Nat) (l : List (List UInt8)) : sib (k + 1) id l = sib k (id / 2) (halve l) := by
  unfold sib
  rw [lev_in, Nat.div_div_eq_div_mul, Nat.pow_succ, Nat.mul_comm (2 ^ k) 2]
theorem up_prove : ∀ (j : Nat) (l : List (List UInt8)) (id : Nat), l.length = 2 ^ j → id < 2 ^ j → upL (proveJ j l id) id (l.getD id zero32) = rootJ j l
  | 0, l, id, hl, hi => by
    obtain rfl : id = 0 := by simpa using hi
    rfl
  | j + 1, l, id, hl, hi => by
    have hp : 0 < 2 ^ j := Nat.two_pow_pos j
    rw [Nat.pow_succ] at hl hi
    have e : proveJ (j + 1) l id = sib 0 id l :: proveJ j (halve l) (id / 2) := by
      unfold proveJ
      rw [List.range_succ_eq_map, List.map_cons, List.map_map]
      congr 1
      refine List.map_congr_left fun k _ => ?_
      exact sib_up k id l
    rw [e]
    show upL (proveJ j (halve l) (id / 2)) (id / 2) _ = rootJ j (halve l)
    have ih := up_prove j (halve l) (id / 2) (by rw [halve_len, hl]; omega) (by omega)
    rw [← ih]
    congr 1
    rw [halve_at l (id / 2) (by omega)]
    unfold sib
    simp only [lev, Nat.pow_zero, Nat.div_one]
    rw [xor_one]
    by_cases h : id % 2 = 0
    · rw [if_pos h, if_pos h, show 2 * (id / 2) = id from by omega]
    · rw [if_neg h, if_neg h, show 2 * (id / 2) = id - 1 from by omega, show id - 1 + 1 = id from by omega]
theorem halve_set (l : List (List UInt8)) (i : Nat) (x : List UInt8) : ∃ y, halve (l.set i x) = (halve l).set (i / 2) y := by
  refine ⟨(halve (l.set i x)).getD (i / 2) zero32, ?_⟩
  refine List.ext_getElem? fun k => ?_
  rw [List.getElem?_set]
  by_cases hk : i / 2 = k
  · subst hk
    rw [if_pos rfl]
    by_cases hlt : i / 2 < (halve l).length
    · rw [if_pos hlt]
      have : i / 2 < (halve (l.set i x)).length := by rw [halve_len, List.length_set, ← halve_len]; exact hlt
      rw [List.getD_eq_getElem?_getD, List.getElem?_eq_getElem this, Option.getD_some]
    · rw [if_neg hlt, List.getElem?_eq_none]
      rw [halve_len, List.length_set, ← halve_len]
      omega
  · rw [if_neg hk]
    unfold halve
    rw [List.length_set, List.getElem?_map, List.getElem?_map]
    by_cases hlt : k < l.length / 2
    · rw [List.getElem?_range hlt]
      simp only [Option.map_some, List.getD_eq_getElem?_getD, List.getElem?_set]
      rw [if_neg (by omega), if_neg (by omega)]
    · rw [List.getElem?_eq_none (by simp; omega), Option.map_none, Option.map_none]
theorem lev_set : ∀ (k : Nat) (l : List (List UInt8)) (i : Nat) (x : List UInt8), ∃ y, lev k (l.set i x) = (lev k l).set (i / 2 ^ k) y
  | 0, l, i, x => ⟨x, by simp [lev]⟩
  | k + 1, l, i, x => by
    obtain ⟨y, hy⟩ := lev_set k l i x
    obtain ⟨z, hz⟩ := halve_set (lev k l) (i / 2 ^ k) y
    refine ⟨z, ?_⟩
    show halve (lev k (l.set i x)) = (halve (lev k l)).set _ _
    rw [hy, hz, Nat.div_div_eq_div_mul, Nat.pow_succ]
/-- a leaf's own proof does not hang on it -/
theorem prove_set (j : Nat) (l : List (List UInt8)) (i : Nat) (x : List UInt8) : proveJ j (l.set i x) i = proveJ j l i := by
  unfold proveJ
  refine List.map_congr_left fun k _ => ?_
  unfold sib
  obtain ⟨y, hy⟩ := lev_set k l i x
  rw [hy, List.getD_eq_getElem?_getD, List.getD_eq_getElem?_getD, List.getElem?_set, if_neg]
  rw [xor_one]
  split <;> omega
end Go.Proofs.Ytakebmpnbdlcoaa
/- Plain law of tree.grow's rounds: what stands above is filled in whatever order. -/
set_option linter.unusedSimpArgs false
set_option linter.unusedVariables false
namespace Go.Proofs.Ytakebmpnbdlcoaa
/-- the level above, at each place -/
def upF (f : Nat → List UInt8) (q : Nat) : List UInt8 := overS (f (2 * q)) (f (2 * q + 1))
/-- half way: each place above is filled, or is noughts and each of its two below that is there is still to come -/
def HalfUp (f g : Nat → List UInt8) (has left : Nat → Prop) : Prop := ∀ q, g q = upF f q ∨ (g q = zero32 ∧ ∀ c, c / 2 = q → has c → left c)
theorem halfUp_start (f : Nat → List UInt8) (has : Nat → Prop) : HalfUp f (fun _ => zero32) has has := fun _ => .inr ⟨rfl, fun _ _ h => h⟩
theorem halfUp_step {f g : Nat → List UInt8} {has left left' : Nat → Prop} {x : Nat} (h : HalfUp f g has left) (hl : ∀ c, c ≠ x → left c → left' c) : HalfUp f (fun q => if q = x / 2 then upF f q else g q) has left' := by
  intro q
  by_cases hq : q = x / 2
  · left
    show (if q = x / 2 then upF f q else g q) = _
    rw [if_pos hq]
  · show (if q = x / 2 then upF f q else g q) = _ ∨ ((if q = x / 2 then upF f q else g q) = _ ∧ _)
    rw [if_neg hq]
    rcases h q with h1 | ⟨h1, h2⟩
    · exact .inl h1
    · exact .inr ⟨h1, fun c hc hh => hl c (by intro e; subst e; exact hq hc.symm) (h2 c hc hh)⟩
theorem overS_zero : overS zero32 zero32 = zero32 := by unfold overS; rw [if_pos ⟨rfl, rfl⟩]
theorem halfUp_end {f g : Nat → List UInt8} {has left : Nat → Prop} (h : HalfUp f g has left) (hnone : ∀ c, ¬ left c) (hf : ∀ c, ¬ has c → f c = zero32) : g = upF f := by
  funext q
  rcases h q with h1 | ⟨h1, h2⟩
  · exact h1
  · rw [h1]
    unfold upF
    rw [hf (2 * q) (fun hh => hnone _ (h2 (2 * q) (by omega) hh)), hf (2 * q + 1) (fun hh => hnone _ (h2 (2 * q + 1) (by omega) hh)), overS_zero]
/-- all sums of one level, half way -/
def HalfM (f g : Nat → List UInt8) (has left : Nat → Prop) : Prop := ∀ c, g c = f c ∨ (g c = zero32 ∧ (has c → left c))
theorem halfM_start (f : Nat → List UInt8) (has : Nat → Prop) : HalfM f (fun _ => zero32) has has := fun _ => .inr ⟨rfl, fun h => h⟩
theorem halfM_step {f g : Nat → List UInt8} {has left left' : Nat → Prop} {x : Nat} (h : HalfM f g has left) (hl : ∀ c, c ≠ x → left c → left' c) : HalfM f (fun c => if c = x then f c else g c) has left' := by
  intro c
  by_cases hc : c = x
  · left
    show (if c = x then f c else g c) = _
    rw [if_pos hc]
  · show (if c = x then f c else g c) = _ ∨ ((if c = x then f c else g c) = _ ∧ _)
    rw [if_neg hc]
    rcases h c with h1 | ⟨h1, h2⟩
    · exact .inl h1
    · exact .inr ⟨h1, fun hh => hl c hc (h2 hh)⟩
theorem halfM_end {f g : Nat → List UInt8} {has left : Nat → Prop} (h : HalfM f g has left) (hnone : ∀ c, ¬ left c) (hf : ∀ c, ¬ has c → f c = zero32) : g = f := by
  funext c
  rcases h c with h1 | ⟨h1, h2⟩
  · exact h1
  · rw [h1, hf c (fun hh => hnone _ (h2 hh))]
/-- a level as a function of places -/
def levF (l : List (List UInt8)) (k : Nat) (c : Nat) : List UInt8 := (lev k l).getD c zero32
theorem levF_up (l : List (List UInt8)) (k j : Nat) (hl : l.length = 2 ^ (k + j + 1)) : levF l (k + 1) = upF (levF l k) := by
  have hlen := lev_len k (j + 1) l (by rw [hl]; congr 1)
  funext q
  unfold levF upF
  show (halve (lev k l)).getD q zero32 = overS ((lev k l).getD (2 * q) zero32) ((lev k l).getD (2 * q + 1) zero32)
  by_cases hq : 2 * q + 1 < (lev k l).length
  · rw [halve_at _ _ hq]
  · have hp : 2 * 2 ^ j = 2 ^ (j + 1) := by rw [Nat.pow_succ]; omega
    have h1 : (halve (lev k l)).getD q zero32 = zero32 := by
      rw [List.getD_eq_getElem?_getD, List.getElem?_eq_none (by rw [halve_len]; omega)]
      rfl
    have h2 : (lev k l).getD (2 * q) zero32 = zero32 := by
      rw [List.getD_eq_getElem?_getD, List.getElem?_eq_none (by omega)]
      rfl
    have h3 : (lev k l).getD (2 * q + 1) zero32 = zero32 := by
      rw [List.getD_eq_getElem?_getD, List.getElem?_eq_none (by omega)]
      rfl
    rw [h1, h2, h3, overS_zero]
end Go.Proofs.Ytakebmpnbdlcoaa
/- Maps of sums by numbers and by places: what tree.grow's maps hold; the steps of a range over one. -/
set_option linter.unusedSimpArgs false
set_option linter.unusedVariables false
namespace Go.Proofs.Ytakebmpnbdlcoaa
open Go.RowKit
set_option maxRecDepth 100000
open Go.Maps (Keyed)
def ik (x : Nat) : Value := .int .i64 (x : Int)
theorem ik_inj (x y : Nat) (h : ik x = ik y) : x = y := by
  unfold ik at h
  injection h with h1 h2
  omega
theorem keyed_int : Keyed Try.prog 3 := Go.Maps.int_keyed Try.underlying3
theorem wf_ik {x : Nat} (h : x < 9223372036854775808) : (Lit.int .i64 (x : Int)).wf = true := WalkArith.wf_i64 (by omega)
theorem keyOf_ik {x : Nat} (h : x < 9223372036854775808) : keyOf Try.prog 3 (ik x) = some (.int .i64 (x : Int)) := Go.Maps.keyOf_int_mk Try.underlying3 (wf_ik h)
/-- a map by numbers below N -/
def Row (w : World) (b n : Nat) (D : DataW Unit) (f : Nat → List UInt8) (N : Nat) : Prop :=
  MapF Try.prog 3 ik w b n D f ∧ ∀ kl, Maps.has D kl = true → ∃ x : Nat, x < N ∧ kl = .int .i64 (x : Int)
theorem Row.new (w : World) (N : Nat) : Row (w.alloc (.map #[] 0)) w.heap.size 0 (.map []) (fun _ => List.replicate 32 0) N := ⟨MapF.new w _ _, fun kl h => by cases h⟩
theorem Row.kept {w w' : World} {b n : Nat} {D : DataW Unit} {f : Nat → List UInt8} {N : Nat} {row : Option Nat} (h : Row w b n D f N) (hg : w.grownBy w' row) (hne : some b ≠ row) : Row w' b n D f N := ⟨h.1.kept hg hne, h.2⟩
theorem Row.lt {w : World} {b n : Nat} {D : DataW Unit} {f : Nat → List UInt8} {N : Nat} (h : Row w b n D f N) : b < w.heap.size := h.1.1.lt
theorem Row.map {w : World} {b n : Nat} {D : DataW Unit} {f : Nat → List UInt8} {N : Nat} (h : Row w b n D f N) : Maps.IsMap D := (h.1.1.tidy keyed_int).isMap
theorem Row.put {w w' : World} {b n : Nat} {D : DataW Unit} {f : Nat → List UInt8} {N x : Nat} {g : List UInt8} (h : Row w b n D f N) (hx : x < N) (hN : N ≤ 1099511627776)
    (h2 : MapF Try.prog 3 ik w' b (n + 1) (D.put (.int .i64 (x : Int)) (.lit (.string g))) (fun y => if y = x then g else f y)) :
    Row w' b (n + 1) (D.put (.int .i64 (x : Int)) (.lit (.string g))) (fun y => if y = x then g else f y) N :=
  ⟨h2, fun kl hk => by
    by_cases e : kl = .int .i64 (x : Int)
    · exact ⟨x, hx, e⟩
    · rw [Maps.has_put_other e] at hk
      exact h.2 kl hk⟩
section
variable {P : Program} {k t e : TypeId} {ops : Array Oper} {rest : List Oper}
theorem wpl_mput {α : Type} [DecidableEq α] {key : α → Value} (hinj : ∀ x y, key x = key y → x = y) {o : Oper} {a : Act} {w : World} {Q : Exit → Act → World → Prop} (hw : Region.wanted o (yielded ops a.tmps) = true) (m y v : Operand) (hop : o.op = .mapUpdate t m y v)
    (Kd : Keyed P k) (ht : P.underlying t = some (.map k e)) {b n : Nat} {D : DataW Unit} {f : α → List UInt8} (hm : a.eval m = .map (some b)) (h : MapF P k key w b n D f) (hn : n < maxLen) (x : α) (hx : a.eval y = key x) {kl : Lit} (hkey : keyOf P k (key x) = some kl)
    (g : List UInt8) (hg : g.length = 32) (hv' : a.eval v = hv g)
    (hK : ∀ w', MapF P k key w' b (n + 1) (D.put kl (.lit (.string g))) (fun y => if y = x then g else f y) → w.grownBy w' (some b) → wpList P ops Q rest (a.put o.dst undef) w') : wpList P ops Q (o :: rest) a w :=
  wpList_wanted hw (wp_mput hinj m y v hop Kd ht hm h hn x hx hkey g hg hv' hK)
theorem wpl_mget {α : Type} {key : α → Value} {o : Oper} {a : Act} {w : World} {Q : Exit → Act → World → Prop} (hw : Region.wanted o (yielded ops a.tmps) = true) (m y : Operand) (hop : o.op = .lookup t m y false)
    (Kd : Keyed P k) (ht : P.underlying t = some (.map k e)) (hz : (zeroValue e).run P w = .ok (hv (List.replicate 32 0)) w) {b n : Nat} {D : DataW Unit} {f : α → List UInt8} (hm : a.eval m = .map (some b)) (h : MapF P k key w b n D f) (x : α) (hx : a.eval y = key x) {kl : Lit} (hkey : keyOf P k (key x) = some kl)
    (hK : (f x).length = 32 → wpList P ops Q rest (a.put o.dst (hv (f x))) w) : wpList P ops Q (o :: rest) a w :=
  wpList_wanted hw (wp_mget m y hop Kd ht hz hm h x hx hkey hK)
end
theorem zero_h (w : World) : (zeroValue 27).run Try.prog w = .ok (hv (List.replicate 32 0)) w := by kernel_rfl
/-- the step of a range over a map by numbers -/
theorem wpl_next_h {ops : Array Oper} {rest : List Oper} {o : Oper} {a : Act} {w : World} {Q : Exit → Act → World → Prop} (hg : o.guard = none) (it : Operand) (hop : o.op = Op.next it false)
    (b r n : Nat) (D : DataW Unit) (f : Nat → List UInt8) (N : Nat) (hN : N ≤ 1099511627776) (left : Lit → Bool) (cnt : Nat) (hit : a.eval it = .pointer (some ⟨r, 0, none⟩)) (h : w.ranges Try.prog 3 HR b r n D left cnt) (hrow : Row w b n D f N)
    (hDone : cnt = 0 → (∀ kl, left kl = false) → wpList Try.prog ops Q rest (a.put o.dst (.tuple #[.bool false])) w)
    (hMore : ∀ (x : Nat) (w' : World) (cnt' : Nat), x < N → left (.int .i64 (x : Int)) = true → (f x).length = 32 → w'.ranges Try.prog 3 HR b r n D (fun z => left z && !z.sameKey (.int .i64 (x : Int))) cnt' → cnt' < cnt →
      w.grownBy w' (some r) → w'.heap.size = w.heap.size → (Instr.entry (.pointer (some ⟨r, 0, none⟩))).run Try.prog w' = .ok (.tuple #[.int .i64 (x : Int), hv (f x)]) w' → wpList Try.prog ops Q rest (a.put o.dst (.tuple #[.bool true, .int .i64 (x : Int), hv (f x)])) w') :
    wpList Try.prog ops Q (o :: rest) a w := by
  refine wpList_next_ranges w hg it hop 3 keyed_int HR (Value.int .i64) (fun g : List UInt8 => hv g) (fun key kl hkey => by obtain ⟨x, rfl, _⟩ := Maps.keyOf_int_inv Try.underlying3 hkey; exact ⟨x, rfl⟩) (fun v y hv' => by obtain ⟨g, rfl, _⟩ := HR_inv hv'; exact ⟨g, rfl⟩)
    b r n D left cnt hit h hDone ?_
  intro x c kl y w' cnt' hkey hl hR hat hrg hlt hgr hsz hen
  obtain ⟨x', ex, rfl, hwx⟩ := Maps.keyOf_int_inv Try.underlying3 hkey
  injection ex with _ ex
  subst ex
  obtain ⟨q, hq, hqe⟩ := hrow.2 _ (Maps.has_true_of_atKey hat)
  injection hqe with _ hqe
  subst hqe
  obtain ⟨g, hge, hgl, rfl⟩ := HR_inv hR
  have h1 := hrow.1.2 q _ (keyOf_ik (by omega))
  rw [hat] at h1
  injection h1 with h1
  injection h1 with h1
  rw [hge] at hen ⊢
  rw [h1] at hgl hen ⊢
  exact hMore q w' cnt' hq hl hgl hrg hlt hgr hsz hen
/-! ### by places -/
def pk (p : Nat × Nat) : Value := .agg #[.int .i64 (p.1 : Int), .int .i64 (p.2 : Int)]
theorem pk_inj (x y : Nat × Nat) (h : pk x = pk y) : x = y := by
  unfold pk at h
  injection h with h
  injection h with h
  injection h with h1 h2
  injection h2 with h2 _
  injection h1 with _ h1
  injection h2 with _ h2
  exact Prod.ext (by omega) (by omega)
theorem keyed_place : Keyed Try.prog 74 := Keyed.of_law (deep_law_laid (by kernel_rfl) (m := 3) (by omega) (of_decide_eq_true (by kernel_rfl)) (by kernel_rfl) (by rw [Try.underlying74]))
theorem keyOf_pk (p : Nat × Nat) (h1 : p.1 < 9223372036854775808) (h2 : p.2 < 9223372036854775808) : ∃ kl, keyOf Try.prog 74 (pk p) = some kl := by
  obtain ⟨N, hN⟩ : ∃ N, Try.prog.types.size + 1 = N + 2 := ⟨Try.prog.types.size - 1, by have : 1 ≤ Try.prog.types.size := of_decide_eq_true (by kernel_rfl); omega⟩
  have hf : (pk p).formed Try.prog 74 = true := by
    have hc : Try.prog.cellsOf 74 = 2 := by kernel_rfl
    simp [Value.formed, pk, Try.underlying74, hc]
  have hk : Try.prog.keyType 74 = true := by kernel_rfl
  unfold keyOf
  rw [Try.underlying74]
  simp only [hf, hk, Bool.and_self, if_true]
  rw [hN]
  have hi : ∀ (d : Nat) (x : Nat), x < 9223372036854775808 → Try.prog.keyLits (d + 1) 3 [.int .i64 (x : Int)] = some [.int .i64 (x : Int)] := by
    intro d x hx
    unfold Program.keyLits
    rw [Try.underlying3]
    simp [wf_ik hx]
  have hc : Try.prog.cellsOf 74 = 2 := by kernel_rfl
  have hci : Try.prog.cellsOf 3 = 1 := by kernel_rfl
  unfold Program.keyLits
  rw [Try.underlying74]
  simp [pk, Value.cells, hc, hci, hi _ _ h1, hi _ _ h2]
end Go.Proofs.Ytakebmpnbdlcoaa
/- Plain law of states: an account is put, and told; what that does to the leaves. -/
set_option linter.unusedSimpArgs false
set_option linter.unusedVariables false
namespace Go.Proofs.Ytakebmpnbdlcoaa
def getS : List Acc → Int → Acc
  | [], id => ⟨id, 0, 0, 0⟩
  | x :: s, id => if x.id = id then x else getS s id
def one_if (a : Acc) : List Acc := if a.none then [] else [a]
def putS : List Acc → Acc → List Acc
  | [], a => one_if a
  | x :: s, a => if x.id < a.id then x :: putS s a else one_if a ++ (if x.id = a.id then s else x :: s)
/-- in the order of ids, all of them ids, none of noughts -/
structure St (s : List Acc) : Prop where
  sorted : s.Pairwise (fun x y => x.id < y.id)
  ids : ∀ x ∈ s, 0 ≤ x.id ∧ x.id < 256
  some_ : ∀ x ∈ s, ¬ x.none
theorem St.nil_ : St [] := ⟨List.Pairwise.nil, by simp, by simp⟩
theorem St.tail {x : Acc} {s : List Acc} (h : St (x :: s)) : St s := ⟨(List.pairwise_cons.1 h.sorted).2, fun y hy => h.ids y (by simp [hy]), fun y hy => h.some_ y (by simp [hy])⟩
theorem mem_one_if {a x : Acc} : x ∈ one_if a ↔ x = a ∧ ¬ a.none := by
  unfold one_if
  by_cases h : a.none
  · simp [h]
  · simp [h]
theorem mem_put : ∀ (s : List Acc) (a : Acc), St s → ∀ x, x ∈ putS s a ↔ (x = a ∧ ¬ a.none) ∨ (x ∈ s ∧ x.id ≠ a.id)
  | [], a, h, x => by unfold putS; rw [mem_one_if]; simp
  | y :: s, a, h, x => by
    have hs := List.pairwise_cons.1 h.sorted
    unfold putS
    by_cases h1 : y.id < a.id
    · rw [if_pos h1, List.mem_cons, mem_put s a h.tail x, List.mem_cons]
      constructor
      · rintro (rfl | h2 | h2)
        · right; exact ⟨.inl rfl, by omega⟩
        · left; exact h2
        · right; exact ⟨.inr h2.1, h2.2⟩
      · rintro (h2 | ⟨rfl | h2, h3⟩)
        · right; left; exact h2
        · left; rfl
        · right; right; exact ⟨h2, h3⟩
    · rw [if_neg h1, List.mem_append, mem_one_if]
      by_cases h2 : y.id = a.id
      · rw [if_pos h2]
        constructor
        · rintro (h3 | h3)
          · left; exact h3
          · right; exact ⟨by simp [h3], by have := hs.1 x h3; omega⟩
        · rintro (h3 | ⟨h3, h4⟩)
          · left; exact h3
          · right
            rcases List.mem_cons.1 h3 with rfl | h3
            · exact absurd h2 h4
            · exact h3
      · rw [if_neg h2]
        constructor
        · rintro (h3 | h3)
          · left; exact h3
          · right
            refine ⟨h3, ?_⟩
            rcases List.mem_cons.1 h3 with rfl | h3
            · exact h2
            · have := hs.1 x h3; omega
        · rintro (h3 | ⟨h3, _⟩)
          · left; exact h3
          · right; exact h3
theorem put_sorted : ∀ (s : List Acc) (a : Acc), St s → (putS s a).Pairwise (fun x y => x.id < y.id)
  | [], a, h => by unfold putS one_if; split <;> simp
  | y :: s, a, h => by
    have hs := List.pairwise_cons.1 h.sorted
    unfold putS
    by_cases h1 : y.id < a.id
    · rw [if_pos h1, List.pairwise_cons]
      refine ⟨fun x hx => ?_, put_sorted s a h.tail⟩
      rcases (mem_put s a h.tail x).1 hx with ⟨rfl, _⟩ | ⟨h2, _⟩
      · exact h1
      · exact hs.1 x h2
    · rw [if_neg h1]
      have hrest : ∀ t : List Acc, t.Pairwise (fun x y => x.id < y.id) → (∀ x ∈ t, a.id < x.id) → (one_if a ++ t).Pairwise (fun x y => x.id < y.id) := by
        intro t ht h2
        unfold one_if
        split
        · simpa using ht
        · rw [List.singleton_append, List.pairwise_cons]
          exact ⟨h2, ht⟩
      by_cases h2 : y.id = a.id
      · rw [if_pos h2]
        exact hrest s hs.2 fun x hx => by have := hs.1 x hx; omega
      · rw [if_neg h2]
        refine hrest (y :: s) h.sorted fun x hx => ?_
        rcases List.mem_cons.1 hx with rfl | hx
        · omega
        · have := hs.1 x hx; omega
theorem St.put {s : List Acc} (h : St s) {a : Acc} (h1 : 0 ≤ a.id) (h2 : a.id < 256) : St (putS s a) :=
  ⟨put_sorted s a h, fun x hx => by
    rcases (mem_put s a h x).1 hx with ⟨rfl, _⟩ | ⟨h3, _⟩
    · exact ⟨h1, h2⟩
    · exact h.ids x h3, fun x hx => by
    rcases (mem_put s a h x).1 hx with ⟨rfl, h3⟩ | ⟨h3, _⟩
    · exact h3
    · exact h.some_ x h3⟩
theorem get_id : ∀ (s : List Acc) (i : Int), (getS s i).id = i
  | [], i => rfl
  | x :: s, i => by
    unfold getS
    split
    · assumption
    · exact get_id s i
theorem get_mem : ∀ (s : List Acc), s.Pairwise (fun x y => x.id < y.id) → ∀ x ∈ s, getS s x.id = x
  | [], _, x, hx => by cases hx
  | y :: s, h, x, hx => by
    have hs := List.pairwise_cons.1 h
    unfold getS
    rcases List.mem_cons.1 hx with rfl | hx
    · rw [if_pos rfl]
    · rw [if_neg (by have := hs.1 x hx; omega)]
      exact get_mem s hs.2 x hx
theorem get_none : ∀ (s : List Acc) (i : Int), (∀ x ∈ s, x.id ≠ i) → getS s i = ⟨i, 0, 0, 0⟩
  | [], i, _ => rfl
  | y :: s, i, h => by
    unfold getS
    rw [if_neg (h y (by simp))]
    exact get_none s i fun x hx => h x (by simp [hx])
theorem get_put {s : List Acc} (h : St s) (a : Acc) (i : Int) : getS (putS s a) i = if i = a.id then a else getS s i := by
  have hp := put_sorted s a h
  by_cases hi : i = a.id
  · rw [if_pos hi]
    by_cases hn : a.none
    · rw [get_none]
      · obtain ⟨h1, h2, h3⟩ := hn
        rw [hi]
        cases a
        simp_all
      · intro x hx
        rcases (mem_put s a h x).1 hx with ⟨_, h3⟩ | ⟨_, h3⟩
        · exact absurd hn h3
        · rw [hi]; exact h3
    · rw [hi]
      exact get_mem _ hp a ((mem_put s a h a).2 (.inl ⟨rfl, hn⟩))
  · rw [if_neg hi]
    by_cases he : ∃ x ∈ s, x.id = i
    · obtain ⟨x, hx, rfl⟩ := he
      rw [get_mem _ hp x ((mem_put s a h x).2 (.inr ⟨hx, hi⟩)), get_mem _ h.sorted x hx]
    · rw [get_none s i fun x hx hxi => he ⟨x, hx, hxi⟩, get_none]
      intro x hx hxi
      rcases (mem_put s a h x).1 hx with ⟨rfl, _⟩ | ⟨h3, _⟩
      · exact hi hxi.symm
      · exact he ⟨x, h3, hxi⟩
/-- two states that tell the same are one -/
theorem st_ext : ∀ (s t : List Acc), St s → St t → (∀ i, getS s i = getS t i) → s = t := by
  intro s t hs ht h
  have key : ∀ (s t : List Acc), St s → St t → (∀ i, getS s i = getS t i) → ∀ x ∈ s, x ∈ t := by
    intro s t hs ht h x hx
    have h1 := get_mem s hs.sorted x hx
    rw [h] at h1
    by_cases he : ∃ y ∈ t, y.id = x.id
    · obtain ⟨y, hy, hyi⟩ := he
      have h2 := get_mem t ht.sorted y hy
      rw [hyi, h1] at h2
      rw [h2]; exact hy
    · rw [get_none t x.id fun y hy hyi => he ⟨y, hy, hyi⟩] at h1
      exact absurd (by rw [← h1]; exact ⟨rfl, rfl, rfl⟩) (hs.some_ x hx)
  have hm : ∀ x, x ∈ s ↔ x ∈ t := fun x => ⟨key s t hs ht h x, key t s ht hs (fun i => (h i).symm) x⟩
  clear h key
  induction s generalizing t with
  | nil =>
    cases t with
    | nil => rfl
    | cons b t => exact absurd ((hm b).2 (by simp)) (by simp)
  | cons a s ih =>
    cases t with
    | nil => exact absurd ((hm a).1 (by simp)) (by simp)
    | cons b t =>
      have h1 := List.pairwise_cons.1 hs.sorted
      have h2 := List.pairwise_cons.1 ht.sorted
      have hab : a = b := by
        rcases List.mem_cons.1 ((hm a).1 (by simp)) with e | ha
        · exact e
        · rcases List.mem_cons.1 ((hm b).2 (by simp)) with e | hb
          · exact e.symm
          · have := h2.1 a ha
            have := h1.1 b hb
            omega
      subst hab
      rw [ih t hs.tail ht.tail fun x => ⟨fun hx => by
        rcases List.mem_cons.1 ((hm x).1 (by simp [hx])) with rfl | h
        · have := h1.1 x hx; omega
        · exact h, fun hx => by
        rcases List.mem_cons.1 ((hm x).2 (by simp [hx])) with rfl | h
        · have := h2.1 x hx; omega
        · exact h⟩]
theorem fold_get : ∀ (s : List Acc) (l : List (List UInt8)), l.length = 256 → St s → ∀ i : Nat, i < 256 → (s.foldl setL l)[i]? = if (∃ x ∈ s, x.id = (i : Int)) then some (leafS (getS s (i : Int))) else l[i]?
  | [], l, hl, h, i, hi => by simp
  | a :: s, l, hl, h, i, hi => by
    have hs := List.pairwise_cons.1 h.sorted
    have ha := h.ids a (by simp)
    rw [List.foldl_cons, fold_get s (setL l a) (by rw [setL_len, hl]) h.tail i hi]
    have hset : setL l a = l.set a.id.toNat (leafS a) := by unfold setL; rw [if_pos ha]
    by_cases hai : a.id = (i : Int)
    · have hno : ¬ ∃ x ∈ s, x.id = (i : Int) := by
        rintro ⟨x, hx, hxi⟩
        have := hs.1 x hx
        omega
      rw [if_neg hno, if_pos ⟨a, by simp, hai⟩, hset, List.getElem?_set, if_pos (by omega), if_pos (by omega)]
      unfold getS
      rw [if_pos hai]
    · have hg : getS (a :: s) (i : Int) = getS s (i : Int) := by
        conv => lhs; unfold getS
        rw [if_neg hai]
      rw [hg]
      by_cases he : ∃ x ∈ s, x.id = (i : Int)
      · rw [if_pos he, if_pos (by obtain ⟨x, hx, hxi⟩ := he; exact ⟨x, by simp [hx], hxi⟩)]
      · rw [if_neg he, if_neg, hset, List.getElem?_set, if_neg (by omega)]
        rintro ⟨x, hx, hxi⟩
        rcases List.mem_cons.1 hx with rfl | hx
        · exact hai hxi
        · exact he ⟨x, hx, hxi⟩
theorem leafS_none (i : Int) : leafS ⟨i, 0, 0, 0⟩ = zero32 := by unfold leafS; rw [if_pos ⟨rfl, rfl, rfl⟩]
theorem leaves_get {s : List Acc} (h : St s) {i : Nat} (hi : i < 256) : (leavesL s)[i]? = some (leafS (getS s (i : Int))) := by
  unfold leavesL
  rw [fold_get s _ (by rw [List.length_replicate]) h i hi]
  by_cases he : ∃ x ∈ s, x.id = (i : Int)
  · rw [if_pos he]
  · rw [if_neg he, List.getElem?_replicate, if_pos hi, get_none s _ fun x hx hxi => he ⟨x, hx, hxi⟩, leafS_none]
theorem leaves_put {s : List Acc} (h : St s) {a : Acc} (h1 : 0 ≤ a.id) (h2 : a.id < 256) : leavesL (putS s a) = (leavesL s).set a.id.toNat (leafS a) := by
  refine List.ext_getElem? fun k => ?_
  by_cases hk : k < 256
  · rw [leaves_get (h.put h1 h2) hk, get_put h, List.getElem?_set]
    by_cases hka : (k : Int) = a.id
    · rw [if_pos hka, if_pos (by omega), if_pos (by rw [leavesL_len]; omega)]
    · rw [if_neg hka, if_neg (by omega), leaves_get h hk]
  · rw [List.getElem?_eq_none (by rw [leavesL_len]; omega), List.getElem?_eq_none (by rw [List.length_set, leavesL_len]; omega)]
end Go.Proofs.Ytakebmpnbdlcoaa
/- Accounts as cells; walks: tree.some, tree.above, capstanref8.None. -/
set_option linter.unusedSimpArgs false
set_option linter.unusedVariables false
namespace Go.Proofs.Ytakebmpnbdlcoaa
open Go.RowKit
set_option maxRecDepth 100000
def accC (a : Acc) : List Value := [.int .i64 a.id, .int .i64 a.bal, .int .i64 a.non, .int .i64 a.dat]
def accV (a : Acc) : Value := .agg (accC a).toArray
def A4 (s : List Acc) : List Value := s.flatMap accC
theorem accC_len (a : Acc) : (accC a).length = 4 := rfl
theorem accC_one (a : Acc) : ∀ u ∈ accC a, u.oneCell' = true := by
  intro u hu
  simp only [accC, List.mem_cons, List.not_mem_nil, or_false] at hu
  rcases hu with rfl | rfl | rfl | rfl <;> rfl
theorem A4_len (s : List Acc) : (A4 s).length = s.length * 4 := by
  induction s with
  | nil => rfl
  | cons a s ih =>
    simp only [A4, List.flatMap_cons, List.length_append, accC_len, List.length_cons] at ih ⊢
    omega
theorem A4_one (s : List Acc) : ∀ u ∈ A4 s, u.oneCell' = true := by
  intro u hu
  obtain ⟨a, _, h⟩ := List.mem_flatMap.1 hu
  exact accC_one a u h
theorem A4_app (a b : List Acc) : A4 (a ++ b) = A4 a ++ A4 b := by simp [A4]
theorem A4_range : ∀ (s : List Acc) (i : Nat) (a : Acc) (_ : s[i]? = some a) (j : Nat) (v : Value) (_ : (accC a)[j]? = some v), (A4 s)[i * 4 + j]? = some v
  | [], i, a, hi, j, v, hv => by simp at hi
  | x :: s, 0, a, hi, j, v, hv => by
    simp at hi
    subst hi
    have hj : j < (accC x).length := (List.getElem?_eq_some_iff.1 hv).1
    rw [A4, List.flatMap_cons, Nat.zero_mul, Nat.zero_add, List.getElem?_append_left hj]
    exact hv
  | x :: s, i + 1, a, hi, j, v, hv => by
    have ih := A4_range s i a (by simpa using hi) j v hv
    rw [A4, List.flatMap_cons, List.getElem?_append_right (by rw [accC_len]; omega), accC_len, show (i + 1) * 4 + j - 4 = i * 4 + j from by omega]
    exact ih
theorem Sl.range4 {w : World} {b o n : Nat} {s : List Acc} (h : Sl w 4 (some ⟨b, o, none⟩) n (A4 s)) (i : Nat) (a : Acc) (hi : s[i]? = some a) : w.rangeAt b (o + i * 4) (accC a) := fun j v hv => by
  rw [Nat.add_assoc]
  exact h.cell (A4_range s i a hi j v hv)
theorem Sl.id4 {w : World} {b o n : Nat} {s : List Acc} (h : Sl w 4 (some ⟨b, o, none⟩) n (A4 s)) (i : Nat) (a : Acc) (hi : s[i]? = some a) : w.cell? ⟨b, o + i * 4, none⟩ = some (.int .i64 a.id) := by
  have := h.range4 i a hi 0 (.int .i64 a.id) rfl
  simpa using this
/-- numbers as may be -/
structure Acc.wf (a : Acc) : Prop where
  id : -9223372036854775808 ≤ a.id ∧ a.id < 9223372036854775808
  bal : -9223372036854775808 ≤ a.bal ∧ a.bal < 9223372036854775808
  non : -9223372036854775808 ≤ a.non ∧ a.non < 9223372036854775808
  dat : -9223372036854775808 ≤ a.dat ∧ a.dat < 9223372036854775808
theorem info_acc {a : Acc} : (Try.prog.info? 23).map (·.size) = some (accC a).length := by rw [accC_len]; kernel_rfl
theorem some_yes (i : Int) (w : World) (h : 0 ≤ i ∧ i < 256) : Calls Try.prog 49 #[.int .i64 i] w fun e w' => e = .returned (.bool true) ∧ w = w' := by
  obtain ⟨h1, h2⟩ := h
  go_enter Try.func49, Try.ntmps49
  go_wp2
  go_ret
  exact ⟨rfl, rfl⟩
theorem some_no (i : Int) (w : World) (h : ¬ (0 ≤ i ∧ i < 256)) : Calls Try.prog 49 #[.int .i64 i] w fun e w' => e = .returned (.bool false) ∧ w = w' := by
  by_cases h1 : 0 ≤ i
  · have h2 : ¬ i < 256 := by omega
    clear h
    go_enter Try.func49, Try.ntmps49
    go_wp2
    go_ret
    exact ⟨rfl, rfl⟩
  · clear h
    go_enter Try.func49, Try.ntmps49
    go_wp2
    go_ret
    exact ⟨rfl, rfl⟩
set_option maxRecDepth 100000 in
set_option maxHeartbeats 2000000 in
theorem above_any (a b : List UInt8) (ha : a.length = 32) (hb : b.length = 32) (w : World) :
    Calls Try.prog 50 #[hv a, hv b] w fun e w' => e = .returned (hv (overS a b)) ∧ Below w.heap.size w w' := by
  unfold hv
  obtain ⟨W, HW, hbw, ba, bb, bz⟩ : ∃ W, Hid (W = ((w.alloc (.cells (B8 a).toArray 27)).alloc (.cells (B8 b).toArray 27)).alloc (.cells #[.int .u8 0, .int .u8 0, .int .u8 0, .int .u8 0, .int .u8 0, .int .u8 0, .int .u8 0, .int .u8 0, .int .u8 0, .int .u8 0, .int .u8 0, .int .u8 0, .int .u8 0, .int .u8 0, .int .u8 0, .int .u8 0, .int .u8 0, .int .u8 0, .int .u8 0, .int .u8 0, .int .u8 0, .int .u8 0, .int .u8 0, .int .u8 0, .int .u8 0, .int .u8 0, .int .u8 0, .int .u8 0, .int .u8 0, .int .u8 0, .int .u8 0, .int .u8 0] 27)) ∧ Below w.heap.size w W ∧
      Blk W w.heap.size 27 (B8 a) ∧ Blk W (w.heap.size + 1) 27 (B8 b) ∧ Blk W (w.heap.size + 2) 27 (B8 zero32) := by
    refine ⟨_, rfl, (((Below.refl _ _).alloc (Nat.le_refl _) _).alloc (by simp) _).alloc (by simp; omega) _, ?_, ?_, ?_⟩
    · exact (Blk.new w (B8 a).toArray 27).to (((Below.refl _ _).alloc (Nat.le_refl _) _).alloc (by simp) _)
    · have := (Blk.new (w.alloc (.cells (B8 a).toArray 27)) (B8 b).toArray 27).to ((Below.refl _ _).alloc (Nat.le_refl _) (.cells #[.int .u8 0, .int .u8 0, .int .u8 0, .int .u8 0, .int .u8 0, .int .u8 0, .int .u8 0, .int .u8 0, .int .u8 0, .int .u8 0, .int .u8 0, .int .u8 0, .int .u8 0, .int .u8 0, .int .u8 0, .int .u8 0, .int .u8 0, .int .u8 0, .int .u8 0, .int .u8 0, .int .u8 0, .int .u8 0, .int .u8 0, .int .u8 0, .int .u8 0, .int .u8 0, .int .u8 0, .int .u8 0, .int .u8 0, .int .u8 0, .int .u8 0, .int .u8 0] 27))
      simpa using this
    · have := Blk.new ((w.alloc (.cells (B8 a).toArray 27)).alloc (.cells (B8 b).toArray 27)) #[.int .u8 0, .int .u8 0, .int .u8 0, .int .u8 0, .int .u8 0, .int .u8 0, .int .u8 0, .int .u8 0, .int .u8 0, .int .u8 0, .int .u8 0, .int .u8 0, .int .u8 0, .int .u8 0, .int .u8 0, .int .u8 0, .int .u8 0, .int .u8 0, .int .u8 0, .int .u8 0, .int .u8 0, .int .u8 0, .int .u8 0, .int .u8 0, .int .u8 0, .int .u8 0, .int .u8 0, .int .u8 0, .int .u8 0, .int .u8 0, .int .u8 0, .int .u8 0] 27
      rw [show ((w.alloc (.cells (B8 a).toArray 27)).alloc (.cells (B8 b).toArray 27)).heap.size = w.heap.size + 2 from by simp] at this
      exact this
  have e1 := eq_hash a zero32 ha rfl
  have e2 := eq_hash b zero32 hb rfl
  have HA := Lib.hid ha
  have HB := Lib.hid hb
  clear ha hb
  by_cases h12 : a = zero32 ∧ b = zero32
  · obtain ⟨h1, h2⟩ := h12
    rw [decide_eq_true h1] at e1
    rw [decide_eq_true h2] at e2
    have HO : Hid (overS a b = zero32) := (by show _ = _; unfold overS; rw [if_pos ⟨h1, h2⟩])
    clear h1 h2
    go_enter Try.func50, Try.ntmps50
    go_upto_region 1 with fail
    refine wp_at HW.out ?_
    clear HW
    go_wp2_with (first
      | (refine wpl_load_fld (by rfl) _ _ rfl w.heap.size 0 rfl (B8 a) _ ba.range Try.underlying27 rfl (info_hash HA.out) ?_)
      | (refine wpl_load_fld (by rfl) _ _ rfl (w.heap.size + 1) 0 rfl (B8 b) _ bb.range Try.underlying27 rfl (info_hash HB.out) ?_)
      | (refine wpl_build (by rfl) _ _ rfl _ built_zero_ ?_)
      | (refine wpl_store_fld (by rfl) _ _ _ rfl (w.heap.size + 2) 0 _ _ (B8 zero32) rfl _ rfl rfl bz (by decide) (info_hash rfl) (B8_one _) ?_
         intro w1 bz1 bu1
         rw [put_all _ _ rfl] at bz1))
    refine bodyPost_ret (v := .agg (B8 (overS a b)).toArray) ?_ rfl ⟨rfl, hbw.trans (below_but bu1 (by omega) hbw.size)⟩
    rw [HO.out]
    exact results_blk Try.results50 rfl bz1 Try.underlying27 rfl (info_hash rfl)
  · have HO : Hid (overS a b = twoS a b) := (by show _ = _; unfold overS; rw [if_neg h12])
    have hc : a = zero32 ∧ b ≠ zero32 ∨ a ≠ zero32 := by
      by_cases h1 : a = zero32
      · exact .inl ⟨h1, fun h2 => h12 ⟨h1, h2⟩⟩
      · exact .inr h1
    clear h12
    rcases hc with ⟨h1, h2⟩ | h1
    · rw [decide_eq_true h1] at e1
      rw [decide_eq_false h2] at e2
      clear h1 h2
      go_enter Try.func50, Try.ntmps50
      go_upto_region 1 with fail
      refine wp_at HW.out ?_
      clear HW
      go_wp2_with (first
        | (refine wpl_load_fld (by rfl) _ _ rfl w.heap.size 0 rfl (B8 a) _ ba.range Try.underlying27 rfl (info_hash HA.out) ?_)
        | (refine wpl_load_fld (by rfl) _ _ rfl (w.heap.size + 1) 0 rfl (B8 b) _ bb.range Try.underlying27 rfl (info_hash HB.out) ?_)
        | (refine wpl_build (by rfl) _ _ rfl _ built_zero_ ?_))
      refine (two_any a b HA.out HB.out _).mono ?_
      rintro e w1 ⟨rfl, hb1⟩
      have bz1 := bz.to hb1
      have f1 := hbw.trans (hb1.mono hbw.size)
      unfold hv
      go_wp2_with (first
        | (refine wpl_store_fld (by rfl) _ _ _ rfl (w.heap.size + 2) 0 _ _ (B8 (twoS a b)) rfl _ rfl rfl bz1 (by rw [B8_len, twoS_len]; exact Nat.le_refl _) (info_hash (twoS_len _ _)) (B8_one _) ?_
           intro w2 bz2 bu2
           rw [put_all _ _ (by rw [B8_len, twoS_len]; rfl)] at bz2))
      refine bodyPost_ret (v := .agg (B8 (overS a b)).toArray) ?_ rfl ⟨rfl, f1.trans (below_but bu2 (by omega) f1.size)⟩
      rw [HO.out]
      exact results_blk Try.results50 rfl bz2 Try.underlying27 rfl (info_hash (twoS_len _ _))
    · rw [decide_eq_false h1] at e1
      clear h1
      go_enter Try.func50, Try.ntmps50
      go_upto_region 1 with fail
      refine wp_at HW.out ?_
      clear HW
      go_wp2_with (first
        | (refine wpl_load_fld (by rfl) _ _ rfl w.heap.size 0 rfl (B8 a) _ ba.range Try.underlying27 rfl (info_hash HA.out) ?_)
        | (refine wpl_load_fld (by rfl) _ _ rfl (w.heap.size + 1) 0 rfl (B8 b) _ bb.range Try.underlying27 rfl (info_hash HB.out) ?_)
        | (refine wpl_build (by rfl) _ _ rfl _ built_zero_ ?_))
      refine (two_any a b HA.out HB.out _).mono ?_
      rintro e w1 ⟨rfl, hb1⟩
      have bz1 := bz.to hb1
      have f1 := hbw.trans (hb1.mono hbw.size)
      unfold hv
      go_wp2_with (first
        | (refine wpl_store_fld (by rfl) _ _ _ rfl (w.heap.size + 2) 0 _ _ (B8 (twoS a b)) rfl _ rfl rfl bz1 (by rw [B8_len, twoS_len]; exact Nat.le_refl _) (info_hash (twoS_len _ _)) (B8_one _) ?_
           intro w2 bz2 bu2
           rw [put_all _ _ (by rw [B8_len, twoS_len]; rfl)] at bz2))
      refine bodyPost_ret (v := .agg (B8 (overS a b)).toArray) ?_ rfl ⟨rfl, f1.trans (below_but bu2 (by omega) f1.size)⟩
      rw [HO.out]
      exact results_blk Try.results50 rfl bz2 Try.underlying27 rfl (info_hash (twoS_len _ _))
end Go.Proofs.Ytakebmpnbdlcoaa
/- Walks: code.turned, code.Int, capstanlaw1.within. -/
set_option linter.unusedSimpArgs false
set_option linter.unusedVariables false
namespace Go.Proofs.Ytakebmpnbdlcoaa
open Go.RowKit
set_option maxRecDepth 100000

theorem or_one (x : Nat) (h : 2 * x + 1 < 18446744073709551616) : bits .or .u64 ((x : Int) * 2) 1 = ((2 * x + 1 : Nat) : Int) := by
  have e := u64_or_nat (2 * x) 1 (by omega) (by omega)
  rw [nat_join 1 (2 * x) 1 (by omega) (by omega)] at e
  rw [← e]
  congr 1
  omega
theorem turned_any (n : Int) (w : World) (ha : -9223372036854775808 ≤ n) (ha2 : n < 9223372036854775808) :
    Calls Try.prog 60 #[.int .i64 n] w fun e w' => e = .returned (.int .u64 (zig n : Int)) ∧ w = w' := by
  by_cases h : n < 0
  · go_enter Try.func60, Try.ntmps60
    go_wp2
    go_ret
    refine ⟨ret_int ?_, rfl⟩
    have e := or_one (-(n + 1)).toNat (by omega)
    rw [show (((-(n + 1)).toNat : Nat) : Int) = -(n + 1) by omega] at e
    rw [show -(n + 1) * 2 = (-(n + 1)) * 2 from rfl, e]
    unfold zig
    rw [if_pos h]
    omega
  · go_enter Try.func60, Try.ntmps60
    go_wp2
    go_ret
    exact ⟨ret_int (by unfold zig; rw [if_neg (Int.not_lt.2 h)]; omega), rfl⟩

theorem or_128 (x : Nat) (h : x < 128) : bits .or .u8 (x : Int) 128 = ((x + 128 : Nat) : Int) := by
  have e := u8_or_nat x 128 (by omega) (by omega)
  rw [Nat.or_comm, nat_join 7 128 x (by omega) (by omega)] at e
  rw [show ((128 : Nat) : Int) = 128 from rfl] at e
  rw [e]
  omega

theorem int_any (A : Option Addr) (l c : Nat) (bs : List UInt8) (n : Int) (w : World) (h : Sl w 1 A l (B8 bs)) (hl : l ≤ 1099511627776) (ha : -9223372036854775808 ≤ n) (ha2 : n < 9223372036854775808) :
    Calls Try.prog 41 #[.slice A l c, .int .i64 n] w (RSl w 5 1 (B8 (bs ++ enc (zig n)))) := by
  have hz := zig_lt ha ha2
  have hle := enc_le hz
  go_enter Try.func41, Try.ntmps41
  go_wp2_with fail
  refine (clone_B A _ c _ _ h (B8_one _) (by omega)).mono ?_
  rintro e w1 ⟨A1, n1, c1, rfl, ho1, hb1⟩
  go_wp2_with fail
  refine (turned_any n w1 ha ha2).mono ?_
  rintro e w' ⟨rfl, rfl⟩
  go_wp2_with fail
  go_loopw [5, 6] (fun s u wr => ∃ (A' : Option Addr) (n' c' : Nat) (pre : List UInt8) (k : Nat), s = .slice A' n' c' ∧ u = .int .u64 (k : Int) ∧ k < 18446744073709551616 ∧
      pre ++ enc k = bs ++ enc (zig n) ∧ Own wr w.heap.size 5 1 A' n' c' (B8 pre) ∧ Below w.heap.size w wr) (fun _ u _ => (intOf u).toNat)
  case atStart => exact ⟨A1, n1, c1, bs, zig n, rfl, rfl, hz, rfl, ho1, hb1⟩
  case round =>
    obtain ⟨A', n', c', pre, k, rfl, rfl, hk, he, ho, hb⟩ := hrel
    have hsz := hb.size
    have hn' := ho.len8
    have hl8 := h.len8
    have hlen : n' + (enc k).length ≤ l + 10 := by
      have := congrArg List.length he
      simp only [List.length_append] at this
      rw [← hn', ← hl8] at this
      omega
    have hpos := enc_pos k
    have HE := Lib.hid he
    have HK := Lib.hid hk
    clear hn' hl8 he hk hz hle ha ha2
    have hNat := Int.toNat_natCast k
    by_cases hlt : k < 128
    · have h1 := enc_lo hlt
      rw [h1] at HE
      clear h1
      have t1 : ¬ (128 : Int) ≤ (k : Int) := by omega
      have y1 : (k : Int) = ((UInt8.ofNat k).toNat : Int) := by rw [UInt8.toNat_ofNat']; omega
      have Y1 := Lib.hid y1
      clear y1
      go_wp2_with (first
        | (at_builtin
           refine wpl_push8 _ _ _ elB rfl rfl rfl ho rfl (UInt8.ofNat k) Y1.out (by omega) (by omega) ?_
           intro A2 c2 w2 ho2 hb2 _ _))
      have hb3 := hb.trans hb2
      refine (clone_B A2 _ c2 _ _ ho2.sl (B8_one _) (by omega)).mono ?_
      rintro e w3 ⟨A3, n3, c3, rfl, ho3, hb4⟩
      go_wp2
      go_ret
      rw [← HE.out]
      exact RSl.mk (ho3.mono hb3.size) (hb3.trans (hb4.mono hb3.size))
    · have h1 := enc_hi hlt
      rw [h1] at HE
      clear h1
      have t1 : (128 : Int) ≤ (k : Int) := by omega
      have y1 : bits .or .u8 ((k : Int) % 128) 128 = ((UInt8.ofNat (k % 128 + 128)).toNat : Int) := by
        have := or_128 (k % 128) (by omega)
        rw [show ((k % 128 : Nat) : Int) = (k : Int) % 128 by omega] at this
        rw [this, UInt8.toNat_ofNat']
        omega
      have Y1 := Lib.hid y1
      clear y1
      go_wp2_with (first
        | (at_builtin
           refine wpl_push8 _ _ _ elB rfl rfl rfl ho rfl (UInt8.ofNat (k % 128 + 128)) Y1.out (by omega) (by omega) ?_
           intro A2 c2 w2 ho2 hb2 _ _))
      go_roundw
      case rel => exact ⟨A2, _, c2, _, k / 128, rfl, by go_num, by have := HK.out; omega, by rw [← HE.out]; simp, ho2, hb.trans hb2⟩
      case measure => simp [intOf]; omega
end Go.Proofs.Ytakebmpnbdlcoaa
