/- The walk of capstanlaw2.ShaTwice. -/
import Derived.Test.YtaaiembhdfgkjaaTwo
import Derived.Test.YtaaiembhdfgkjaaArgs
namespace Go.Proofs.Ytaaiembhdfgkjaa
open Go.RowKit
theorem elH : El Try.prog 30 26 32 32 := El.mk' (z := .agg #[.int .u8 0, .int .u8 0, .int .u8 0, .int .u8 0, .int .u8 0, .int .u8 0, .int .u8 0, .int .u8 0, .int .u8 0, .int .u8 0, .int .u8 0, .int .u8 0, .int .u8 0, .int .u8 0, .int .u8 0, .int .u8 0, .int .u8 0, .int .u8 0, .int .u8 0, .int .u8 0, .int .u8 0, .int .u8 0, .int .u8 0, .int .u8 0, .int .u8 0, .int .u8 0, .int .u8 0, .int .u8 0, .int .u8 0, .int .u8 0, .int .u8 0, .int .u8 0]) Try.underlying30 (by kernel_rfl) rfl (by decide)
theorem fold_fill : ∀ (l : List Value) (k : Nat) (z : Array Value), k + l.length ≤ z.size → (List.foldl (fun (cs : Array Value) (x : Value × Nat) => cs.setIfInBounds x.2 x.1) z (l.zipIdx k)).toList = z.toList.take k ++ l ++ z.toList.drop (k + l.length)
  | [], k, z, h => by simp
  | a :: l, k, z, h => by
    simp only [List.length_cons] at h
    rw [List.zipIdx_cons, List.foldl_cons, fold_fill l (k + 1) _ (by simp; omega)]
    have hk : k < z.toList.length := by simp; omega
    simp only [Array.toList_setIfInBounds]
    rw [List.take_set, List.drop_set_of_lt (by omega), List.take_succ_eq_append_getElem hk, List.set_append_right _ _ (by simp; omega)]
    simp only [List.length_take, Nat.min_eq_left (Nat.le_of_lt hk), Nat.sub_self, List.set_cons_zero, List.append_assoc, List.cons_append, List.nil_append, List.length_cons]
    congr 3
    congr 1
    omega
theorem fold_sum (sm : List UInt8) (h : sm.length = 32) : List.foldl (fun (cs : Array Value) (x : Value × Nat) => cs.setIfInBounds x.2 x.1) #[.int .u8 0, .int .u8 0, .int .u8 0, .int .u8 0, .int .u8 0, .int .u8 0, .int .u8 0, .int .u8 0, .int .u8 0, .int .u8 0, .int .u8 0, .int .u8 0, .int .u8 0, .int .u8 0, .int .u8 0, .int .u8 0, .int .u8 0, .int .u8 0, .int .u8 0, .int .u8 0, .int .u8 0, .int .u8 0, .int .u8 0, .int .u8 0, .int .u8 0, .int .u8 0, .int .u8 0, .int .u8 0, .int .u8 0, .int .u8 0, .int .u8 0, .int .u8 0] ((B8 sm).zipIdx) = (B8 sm).toArray := by
  apply Array.toList_inj.1
  rw [fold_fill (B8 sm) 0 _ (by rw [B8_len, h]; decide), B8_len, h]
  simp
/-- some sums, one behind the other -/
def HS (hs : List (List UInt8)) : List Value := hs.flatMap B8
theorem HS_snoc (hs : List (List UInt8)) (h : List UInt8) : HS (hs ++ [h]) = HS hs ++ B8 h := by simp [HS]
theorem HS_at : ∀ (hs : List (List UInt8)) (_ : ∀ h ∈ hs, h.length = 32) (i : Nat) (h : List UInt8) (_ : hs[i]? = some h) (j : Nat) (v : Value) (_ : (B8 h)[j]? = some v), (HS hs)[i * 32 + j]? = some v
  | [], _, i, h, hi, j, v, hv => by simp at hi
  | a :: hs, hl, 0, h, hi, j, v, hv => by
    simp at hi
    subst hi
    have hj : j < (B8 a).length := (List.getElem?_eq_some_iff.1 hv).1
    rw [HS, List.flatMap_cons, Nat.zero_mul, Nat.zero_add, List.getElem?_append_left hj]
    exact hv
  | a :: hs, hl, i + 1, h, hi, j, v, hv => by
    have ih := HS_at hs (fun h hh => hl h (by simp [hh])) i h (by simpa using hi) j v hv
    have ha : (B8 a).length = 32 := by rw [B8_len]; exact hl a (by simp)
    rw [HS, List.flatMap_cons, List.getElem?_append_right (by omega), ha, show (i + 1) * 32 + j - 32 = i * 32 + j from by omega]
    exact ih
theorem Sl.sum {w : World} {b o n : Nat} {hs : List (List UInt8)} (h : Sl w 32 (some ⟨b, o, none⟩) n (HS hs)) (hl : ∀ h ∈ hs, h.length = 32) (i : Nat) (x : List UInt8) (hi : hs[i]? = some x) : w.rangeAt b (o + i * 32) (B8 x) := fun j v hv => by
  rw [Nat.add_assoc]
  exact h.cell (HS_at hs hl i x hi j v hv)
theorem wpC_load_mid' {P : Program} {ops : Array Oper} {Q : Exit → Act → World → Prop} {R : World → World → Prop} {i : Nat} {rest : List (Nat × Bool)} {o : Oper} {a : Act} {w : World} (hrefl : ∀ w, R w w) (ho : nth ops.toList i = some o) (hw : Region.wanted o (yielded ops a.tmps) = true) (ty : TypeId) (x : Operand) (hop : o.op = .load ty x)
    (b off : Nat) (hx : a.eval x = .pointer (some ⟨b, off, none⟩)) (cs : List Value) (d : TypeDesc) (hc : w.rangeAt b off cs) (hu : P.underlying ty = some d) (hd : d.isRow = true) (hi : (P.info? ty).map (·.size) = some cs.length)
    (h : wpC P ops Q R rest (a.put o.dst (.agg cs.toArray)) w) : wpC P ops Q R ((i, false) :: rest) a w := by
  unfold wpC wpOp
  simp only [nth_ops ho, hw, if_true]
  refine .inl ?_
  refine wp_load_mid ty x hop b off hx cs d hc hu hd hi ?_
  exact ⟨hrefl w, h⟩
theorem eq_self' (a : List UInt8) (ha : a.length = 32) (w : World) : (Op.equalIn 10000 26 (.agg (B8 a).toArray) (.agg (B8 a).toArray)).run Try.prog w = .ok true w := by
  rw [eq_hash a a ha ha w]
  simp
set_option maxRecDepth 100000 in
set_option maxHeartbeats 4000000 in
theorem shaTwice_walk (w : World) (A : Option Addr) (n c : Nat) (ss : List (Option Addr × Nat × Nat × List UInt8)) (hnc : n ≤ c) (hc : c ≤ maxLen) (sb : ∀ x ∈ ss, SB w x) (sl : Sl w 1 A n (ss.map sbv)) :
    Calls Try.prog 4 #[.slice A n c] w (RB true w) := by
  have hn63 : n ≤ 9223372036854775807 := by simp only [maxLen] at hc; omega
  have hlen : ss.length = n := by have := sl.len; simpa using this
  have HSB := Lib.hid sb
  have HLEN := Lib.hid hlen
  clear hnc hc sb hlen
  go_enter Try.func4, Try.ntmps4
  go_wp2_with fail
  refine (shaKnown_any w).mono ?_
  rintro e w1 ⟨rfl, h1⟩
  have sl1 := sl.to h1
  go_wp2_with fail
  go_loopw [3, 4] (fun s v wr => ∃ (A' : Option Addr) (c' i : Nat), i ≤ n ∧ i ≤ 10 ∧ v = .int .i64 i ∧ s = .slice A' i c' ∧ Own wr w1.heap.size 26 32 A' i c' (HS ((ss.take i).map fun x => shaS x.2.2.2)) ∧ Below w1.heap.size w1 wr ∧ ∀ x ∈ ss.take i, x.2.1 ≤ 300) (fun _ v _ => 10 - (intOf v).toNat)
  case atStart => exact ⟨none, 0, 0, Nat.zero_le _, by omega, rfl, rfl, Own.nil_, Below.refl _ _, by simp⟩
  case round =>
    obtain ⟨A', c', i, hin, hi10, rfl, rfl, ho, hb, h300⟩ := hrel
    have hsz := hb.size
    have H300 := Lib.hid h300
    clear h300
    have fin : Below w.heap.size w wr := h1.trans (hb.mono h1.size)
    by_cases hlt : i < n ∧ i < 10
    · obtain ⟨hlt, hlt10⟩ := hlt
      have t1 : (i : Int) < (n : Int) := by omega
      have t2 : (i : Int) < 10 := by omega
      obtain ⟨x, hx⟩ : ∃ x, ss[i]? = some x := ⟨_, List.getElem?_eq_getElem (by rw [HLEN.out]; exact hlt)⟩
      have hxs := HSB.out x (List.mem_of_getElem? hx)
      obtain ⟨bA, oA, rfl, hbA⟩ := sl1.some_ (by omega)
      have cx := (sl1.to hb).cell (k := i) (u := sbv x) (by simp [hx])
      obtain ⟨B, m, cc, bs⟩ := x
      simp only [sbv] at cx
      have hxs1 : Sl wr 1 B m (B8 bs) := hxs.2.2.2.to fin
      by_cases hm : (300 : Int) < m
      · go_wp2_with fail
        go_ret
        exact ⟨rfl, fin⟩
      · have hm2 : m ≤ 300 := by omega
        have HX := Lib.hid hx
        clear hx
        go_wp2_with fail
        refine (sum_any B m cc bs wr hxs1 (by omega)).mono ?_
        rintro e w2 ⟨rfl, h2⟩
        have HSL := Lib.hid (shaS_len bs)
        unfold hv
        have ho2 := ho.to h2
        have hs2 := h2.size
        have hbl : (B8 (shaS bs)).length = 32 := by rw [B8_len, HSL.out]
        go_wp2_with (first
          | (at_builtin
             rw [fold_sum (shaS bs) HSL.out]
             have e1 : (B8 (shaS bs)).toArray.size = 1 * 32 := by simp [hbl]
             have e2 : ∀ u ∈ (B8 (shaS bs)).toArray.toList, u.oneCell' = true := by intro u hu; exact B8_one _ u (by simpa using hu)
             refine wpl_push _ _ _ elH rfl rfl rfl ho2 rfl e1 e2 (by omega) (by omega) (by omega) ?_
             clear e1 e2
             intro A3 c3 w3 g3 h3 _))
        have o3 := g3.own
        rw [show HS ((ss.take i).map fun x => shaS x.2.2.2) ++ (B8 (shaS bs)).toArray.toList = HS ((ss.take (i + 1)).map fun x => shaS x.2.2.2) from by
          rw [List.take_add_one, HX.out, List.map_append]
          simp [HS]] at o3
        have hb3 := hb.trans ((h2.mono hsz).trans h3)
        have h3x : ∀ x ∈ ss.take (i + 1), x.2.1 ≤ 300 := by
          intro x hx
          rw [List.take_add_one, HX.out, List.mem_append] at hx
          rcases hx with hx | hx
          · exact H300.out x hx
          · simp at hx
            rw [hx]
            exact hm2
        have H3X := Lib.hid h3x
        clear h3x g3 h3 ho ho2 hbl
        go_roundw
        case rel => exact ⟨A3, c3, i + 1, by omega, by omega, by go_num, rfl, o3, hb3, H3X.out⟩
        case measure => simp [intOf]; omega
    · have ht : (i : Int) < (n : Int) ∧ ¬ (i : Int) < 10 ∨ ¬ (i : Int) < (n : Int) := by omega
      rcases ht with ⟨t1, t2⟩ | t1
      all_goals
        go_wp2_with fail
        obtain ⟨hs, hhs⟩ : ∃ hs, hs = (ss.take i).map fun x => shaS x.2.2.2 := ⟨_, rfl⟩
        rw [← hhs] at ho
        have hhl : ∀ h ∈ hs, h.length = 32 := by
          intro h hh
          rw [hhs] at hh
          obtain ⟨x, _, rfl⟩ := List.mem_map.1 hh
          exact shaS_len _
        have hat : ∀ (j : Nat) (x : Option Addr × Nat × Nat × List UInt8), j < i → ss[j]? = some x → hs[j]? = some (shaS x.2.2.2) ∧ x.2.1 ≤ 300 := by
          intro j x hj hx
          refine ⟨by rw [hhs, List.getElem?_map, List.getElem?_take, if_pos hj, hx]; rfl, H300.out x (List.mem_of_getElem? (i := j) (by rw [List.getElem?_take, if_pos hj]; exact hx))⟩
        have HHL := Lib.hid hhl
        have HAT := Lib.hid hat
        have hso := ho.sl
        have hsc := ho.le
        clear hhs hhl hat
        go_loopw [5] (fun v wq => ∃ q : Nat, q ≤ i ∧ v = .int .i64 ((q : Int) - 1) ∧ Below wr.heap.size wr wq) (fun v _ => (intOf v + 1).toNat)
        case atStart => exact ⟨i, Nat.le_refl _, rfl, Below.refl _ _⟩
        case round =>
          obtain ⟨q, hq, rfl, hbq⟩ := hrel
          have finq := fin.trans (hbq.mono fin.size)
          by_cases hq0 : q = 0
          · subst hq0
            have t3 : ¬ (0 : Int) ≤ ((0 : Nat) : Int) - 1 := by decide
            clear t1
            go_wp2_with fail
            go_ret
            exact ⟨rfl, finq⟩
          · obtain ⟨j, hj⟩ : ∃ j, j = q - 1 := ⟨_, rfl⟩
            have u1 : (q : Int) - 1 = (j : Int) := by omega
            have hji : j < i := by omega
            have hjn : j < n := by omega
            rw [u1]
            have HJ := Lib.hid hj
            clear hj
            obtain ⟨x, hx⟩ : ∃ x, ss[j]? = some x := ⟨_, List.getElem?_eq_getElem (by rw [HLEN.out]; exact hjn)⟩
            have hxs := HSB.out x (List.mem_of_getElem? hx)
            obtain ⟨hh, hm⟩ := HAT.out j x hji hx
            obtain ⟨bA, oA, rfl, hbA⟩ := sl1.some_ (by omega)
            obtain ⟨g, og, rfl, hgl⟩ := hso.some_ (by omega)
            have cx := ((sl1.to hb).to hbq).cell (k := j) (u := sbv x) (by simp [hx])
            obtain ⟨B, m, cc, bs⟩ := x
            simp only [sbv] at cx
            dsimp only at hh hm
            have hxs1 := hxs.2.2.2.to finq
            have cv := conv_str (P := Try.prog) Try.underlying24 Try.underlying5 Try.underlying9 (c := cc) hxs1
            have HX := Lib.hid hx
            have HHH := Lib.hid hh
            clear hx hh
            go_wp2_with fail
            clear cv cx
            refine wp_region_C [(0, true), (1, true), (2, true), (3, true), (5, true), (6, true), (7, true), (8, true), (4, false), (9, false), (10, false), (11, true), (12, true), (13, true), (14, true), (15, true), (16, false), (17, false), (18, false)] RBel (by kernel_rfl) (by kernel_rfl) (by kernel_rfl) (by decide) RBel.refl_ RBel.trans_ (by intro d v c a w h; cases d <;> exact h) ?_
            have cx2 : ∀ w', RBel wr.drew w' → w'.cell? ⟨bA, oA + j, none⟩ = some (.slice B m cc) := fun w' hw' => (Sl.to (w := wr.drew) ((sl1.to hb).to hbq).drew hw').cell (k := j) (u := .slice B m cc) (by simp [HX.out, sbv])
            have slD : Sl wr.drew 1 (some ⟨bA, oA, none⟩) n (ss.map sbv) := ((sl1.to hb).to hbq).drew
            have hso2 : Sl wr.drew 32 (some ⟨g, og, none⟩) i (HS hs) := (hso.to hbq).drew
            have rg : ∀ w', RBel wr.drew w' → w'.rangeAt g (og + j * 32) (B8 (shaS bs)) := fun w' hw' => (hso2.to hw').sum HHL.out j _ HHH.out
            have hxs2 := hxs1.drew
            have fin2 : Below w.heap.size w wr.drew := finq.drew
            have hbq2 := hbq.drew
            have j32 : (j : Int) < (i : Int) := by omega
            generalize wr.drew = wd at *
            repeat (first | (refine wpC_quiet (v := ?_) rfl (by rfl) ?_ ?_; rotate_left; (· (intro w' hw'; go_simp; try with_reducible rfl)); simp only [Act.put, List.setIfInBounds_toArray, List.set_cons_zero, List.set_cons_succ]) | (refine wpC_val (v := ?_) (RBel.refl_) rfl (by rfl) ?_ ?_; rotate_left; (· (go_simp; try with_reducible rfl)); simp only [Act.put, List.setIfInBounds_toArray, List.set_cons_zero, List.set_cons_succ]) | (refine wpC_skip rfl (by rfl) ?_; simp only [Act.put, List.setIfInBounds_toArray, List.set_cons_zero, List.set_cons_succ]) | (refine wpC_skip' (RBel.refl_) rfl (by rfl) ?_; simp only [Act.put, List.setIfInBounds_toArray, List.set_cons_zero, List.set_cons_succ]))
            clear cx2
            refine wpC_load rfl (by rfl) _ _ rfl g (og + j * 32) rfl (B8 (shaS bs)) _ rg Try.underlying26 rfl (info_hash (shaS_len _)) ?_
            simp only [Act.put, List.setIfInBounds_toArray, List.set_cons_zero, List.set_cons_succ]
            clear rg
            (refine wpC_loud rfl (by rfl) ?_; intro K hK; go_simp)
            refine (sum_any B m cc bs wd hxs2 (by omega)).mono ?_
            rintro e w5 ⟨rfl, h5⟩
            unfold hv
            (refine hK.out _ _ (h5) ?_; clear hK K; try simp only [Act.put, List.setIfInBounds_toArray, List.set_cons_zero, List.set_cons_succ])
            have eqs := eq_self' (shaS bs) (shaS_len _)
            have cx3 : ∀ w', RBel w5 w' → w'.cell? ⟨bA, oA + j, none⟩ = some (.slice B m cc) := fun w' hw' => (Sl.to (slD.to h5) hw').cell (k := j) (u := .slice B m cc) (by simp [HX.out, sbv])
            have hxs5 := hxs2.to h5
            have cv5 : ∀ w', RBel w5 w' → (convert 24 9 (.slice B m cc)).run Try.prog w' = .ok (.string (str bs)) w' := fun w' hw' => conv_str Try.underlying24 Try.underlying5 Try.underlying9 (hxs5.to hw')
            have fin5 := fin2.trans (h5.mono fin2.size)
            have hso5 := hso2.to h5
            have sl5 := slD.to h5
            have hb5 := hbq2.trans (h5.mono hbq2.size)
            clear hso2 hxs2 fin2 hbq2 h5
            repeat (first | (refine wpC_quiet (v := ?_) rfl (by rfl) ?_ ?_; rotate_left; (· (intro w' hw'; go_simp; try with_reducible rfl)); simp only [Act.put, List.setIfInBounds_toArray, List.set_cons_zero, List.set_cons_succ]) | (refine wpC_val (v := ?_) (RBel.refl_) rfl (by rfl) ?_ ?_; rotate_left; (· (go_simp; try with_reducible rfl)); simp only [Act.put, List.setIfInBounds_toArray, List.set_cons_zero, List.set_cons_succ]) | (refine wpC_skip rfl (by rfl) ?_; simp only [Act.put, List.setIfInBounds_toArray, List.set_cons_zero, List.set_cons_succ]) | (refine wpC_skip' (RBel.refl_) rfl (by rfl) ?_; simp only [Act.put, List.setIfInBounds_toArray, List.set_cons_zero, List.set_cons_succ]))
            clear cx3 cv5 eqs
            refine wpC_nil ?_
            go_wp2_with fail
            go_loopw [7] (fun v wq => ∃ p : Nat, p ≤ j ∧ v = .int .i64 p ∧ Below w5.heap.size w5 wq) (fun v _ => j - (intOf v).toNat)
            case atStart => exact ⟨0, Nat.zero_le _, rfl, Below.refl _ _⟩
            case round =>
              obtain ⟨p, hp, rfl, hbp⟩ := hrel
              by_cases hpj : p < j
              · have t5 : (p : Int) < (j : Int) := by omega
                go_wp2_with fail
                obtain ⟨y, hy⟩ : ∃ y, ss[p]? = some y := ⟨_, List.getElem?_eq_getElem (by rw [HLEN.out]; omega)⟩
                have hys := HSB.out y (List.mem_of_getElem? hy)
                obtain ⟨hhp, _⟩ := HAT.out p y (by omega) hy
                obtain ⟨B', m', cc', bs'⟩ := y
                dsimp only at hhp
                have finp := fin5.trans (hbp.mono fin5.size)
                have slp : Sl wr.drew 1 (some ⟨bA, oA, none⟩) n (ss.map sbv) := (sl5.to hbp).drew
                have cp : ∀ w', RBel wr.drew w' → w'.cell? ⟨bA, oA + p, none⟩ = some (.slice B' m' cc') := fun w' hw' => (slp.to hw').cell (k := p) (u := .slice B' m' cc') (by simp [hy, sbv])
                have cj : wr.drew.cell? ⟨bA, oA + j, none⟩ = some (.slice B m cc) := slp.cell (k := j) (u := .slice B m cc) (by simp [HX.out, sbv])
                have hyp : Sl wr.drew 1 B' m' (B8 bs') := (hys.2.2.2.to finp).drew
                have hxp : Sl wr.drew 1 B m (B8 bs) := (hxs.2.2.2.to finp).drew
                have cvp : ∀ w', RBel wr.drew w' → (convert 24 9 (.slice B' m' cc')).run Try.prog w' = .ok (.string (str bs')) w' := fun w' hw' => conv_str Try.underlying24 Try.underlying5 Try.underlying9 (hyp.to hw')
                have cvj : (convert 24 9 (.slice B m cc)).run Try.prog wr.drew = .ok (.string (str bs)) wr.drew := conv_str Try.underlying24 Try.underlying5 Try.underlying9 hxp
                have hsop : Sl wr.drew 32 (some ⟨g, og, none⟩) i (HS hs) := (hso5.to hbp).drew
                have rgp : ∀ w', RBel wr.drew w' → w'.rangeAt g (og + p * 32) (B8 (shaS bs')) := fun w' hw' => (hsop.to hw').sum HHL.out p _ hhp
                have rgj : wr.drew.rangeAt g (og + j * 32) (B8 (shaS bs)) := hsop.sum HHL.out j _ HHH.out
                have pn : (p : Int) < (n : Int) := by omega
                have jn : (j : Int) < (n : Int) := by omega
                have pi : (p : Int) < (i : Int) := by omega
                have ji : (j : Int) < (i : Int) := by omega
                have hbp' : Below w5.heap.size w5 wr.drew := hbp.drew
                clear hy hhp hbp
                refine wp_region_C [(0, true), (1, true), (2, true), (3, true), (4, true), (5, true), (6, false), (7, false), (8, false), (9, false), (10, false), (11, false), (12, true), (13, true), (14, true), (15, true), (16, true), (17, false), (18, false), (19, false), (20, false), (21, false)] RBel (by kernel_rfl) (by kernel_rfl) (by kernel_rfl) (by decide) RBel.refl_ RBel.trans_ (by intro d v c a w h; cases d <;> exact h) ?_
                by_cases hbb : bs' = bs
                · have es : ((str bs').toList == (str bs).toList) = true := by rw [hbb]; simp
                  have eqs := eq_self' (shaS bs) (shaS_len _)
                  have hsb : shaS bs' = shaS bs := by rw [hbb]
                  rw [hsb] at rgp
                  clear hbb hsb
                  generalize wr.drew = wd at *
                  repeat (first | (refine wpC_quiet (v := ?_) rfl (by rfl) ?_ ?_; rotate_left; (· (intro w' hw'; go_simp; try with_reducible rfl)); simp only [Act.put, List.setIfInBounds_toArray, List.set_cons_zero, List.set_cons_succ]) | (refine wpC_val (v := ?_) (RBel.refl_) rfl (by rfl) ?_ ?_; rotate_left; (· (go_simp; try with_reducible rfl)); simp only [Act.put, List.setIfInBounds_toArray, List.set_cons_zero, List.set_cons_succ]) | (refine wpC_skip rfl (by rfl) ?_; simp only [Act.put, List.setIfInBounds_toArray, List.set_cons_zero, List.set_cons_succ]) | (refine wpC_skip' (RBel.refl_) rfl (by rfl) ?_; simp only [Act.put, List.setIfInBounds_toArray, List.set_cons_zero, List.set_cons_succ]))
                  clear cp cj cvp cvj
                  refine wpC_load rfl (by rfl) _ _ rfl g (og + p * 32) rfl (B8 (shaS bs)) _ rgp Try.underlying26 rfl (info_hash (shaS_len _)) ?_
                  simp only [Act.put, List.setIfInBounds_toArray, List.set_cons_zero, List.set_cons_succ]
                  repeat (first | (refine wpC_quiet (v := ?_) rfl (by rfl) ?_ ?_; rotate_left; (· (intro w' hw'; go_simp; try with_reducible rfl)); simp only [Act.put, List.setIfInBounds_toArray, List.set_cons_zero, List.set_cons_succ]) | (refine wpC_val (v := ?_) (RBel.refl_) rfl (by rfl) ?_ ?_; rotate_left; (· (go_simp; try with_reducible rfl)); simp only [Act.put, List.setIfInBounds_toArray, List.set_cons_zero, List.set_cons_succ]) | (refine wpC_skip rfl (by rfl) ?_; simp only [Act.put, List.setIfInBounds_toArray, List.set_cons_zero, List.set_cons_succ]) | (refine wpC_skip' (RBel.refl_) rfl (by rfl) ?_; simp only [Act.put, List.setIfInBounds_toArray, List.set_cons_zero, List.set_cons_succ]))
                  refine wpC_load_mid' RBel.refl_ rfl (by rfl) _ _ rfl g (og + j * 32) rfl (B8 (shaS bs)) _ rgj Try.underlying26 rfl (info_hash (shaS_len _)) ?_
                  simp only [Act.put, List.setIfInBounds_toArray, List.set_cons_zero, List.set_cons_succ]
                  clear rgp rgj
                  repeat (first | (refine wpC_quiet (v := ?_) rfl (by rfl) ?_ ?_; rotate_left; (· (intro w' hw'; go_simp; try with_reducible rfl)); simp only [Act.put, List.setIfInBounds_toArray, List.set_cons_zero, List.set_cons_succ]) | (refine wpC_val (v := ?_) (RBel.refl_) rfl (by rfl) ?_ ?_; rotate_left; (· (go_simp; try with_reducible rfl)); simp only [Act.put, List.setIfInBounds_toArray, List.set_cons_zero, List.set_cons_succ]) | (refine wpC_skip rfl (by rfl) ?_; simp only [Act.put, List.setIfInBounds_toArray, List.set_cons_zero, List.set_cons_succ]) | (refine wpC_skip' (RBel.refl_) rfl (by rfl) ?_; simp only [Act.put, List.setIfInBounds_toArray, List.set_cons_zero, List.set_cons_succ]))
                  clear es eqs
                  refine wpC_nil ?_
                  go_wp2_with fail
                  go_roundw
                  case rel => exact ⟨p + 1, by omega, by go_num, hbp'⟩
                  case measure => simp [intOf]; omega
                · have es : ((str bs').toList == (str bs).toList) = false := by rw [str_toList, str_toList]; simpa using hbb
                  clear hbb rgp rgj
                  generalize wr.drew = wd at *
                  repeat (first | (refine wpC_quiet (v := ?_) rfl (by rfl) ?_ ?_; rotate_left; (· (intro w' hw'; go_simp; try with_reducible rfl)); simp only [Act.put, List.setIfInBounds_toArray, List.set_cons_zero, List.set_cons_succ]) | (refine wpC_val (v := ?_) (RBel.refl_) rfl (by rfl) ?_ ?_; rotate_left; (· (go_simp; try with_reducible rfl)); simp only [Act.put, List.setIfInBounds_toArray, List.set_cons_zero, List.set_cons_succ]) | (refine wpC_skip rfl (by rfl) ?_; simp only [Act.put, List.setIfInBounds_toArray, List.set_cons_zero, List.set_cons_succ]) | (refine wpC_skip' (RBel.refl_) rfl (by rfl) ?_; simp only [Act.put, List.setIfInBounds_toArray, List.set_cons_zero, List.set_cons_succ]))
                  clear cp cj cvp cvj es
                  refine wpC_nil ?_
                  go_wp2_with fail
                  go_roundw
                  case rel => exact ⟨p + 1, by omega, by go_num, hbp'⟩
                  case measure => simp [intOf]; omega
              · have t5 : ¬ (p : Int) < (j : Int) := by omega
                go_wp2_with fail
                go_roundw
                case rel => exact ⟨j, by omega, by go_num, hb5.trans (hbp.mono hb5.size)⟩
                case measure => simp [intOf]
end Go.Proofs.Ytaaiembhdfgkjaa
