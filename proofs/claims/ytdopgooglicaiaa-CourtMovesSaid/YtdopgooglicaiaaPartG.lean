/- The texts of this claim, part G: words, plain laws, walks. -/
import Derived.Test.YtdopgooglicaiaaPartF
/- Walks: court.New, Add, party. -/
set_option linter.unusedSimpArgs false
set_option linter.unusedVariables false
namespace Go.Proofs.Ytdopgooglicaiaa
open Go.RowKit
set_option maxRecDepth 100000
/-- a call that hands back a court, and an error -/
def RCe (w : World) (c : CO) (er : Int) (en : Ending) (w' : World) : Prop := ∃ v, en = .returned (.tuple #[v, .int .i64 er]) ∧ (∀ S : List Nat, (∀ b ∈ S, b < w.heap.size) → CoX S w' v c) ∧ Below w.heap.size w w'
theorem built_court (pre : List UInt8) (h : pre.length = 32) : Try.prog.built 30 [(1, .agg (B8 pre).toArray)] = some (coC (.slice none 0 0) (.slice none 0 0) ⟨0, pre, [], [0, 0, 0, 0, 0, 0, 0, 0], []⟩).toArray := by
  rw [built_struct (z := .agg zeroCC.toArray) (places := [(0, 1), (1, 32), (33, 1), (34, 8), (42, 1)]) (by kernel_rfl) Try.underlying30 (by kernel_rfl)]
  rw [show (Value.agg zeroCC.toArray).cells = zeroCC.toArray from rfl]
  rw [fill_cons _ _ (B8 pre) 1 1 _ _ (by rw [B8_len, h]; rfl) rfl (by rw [B8_len, h, zeroCC_len]; omega)]
  rw [show put_ zeroCC 1 (B8 pre) = coC (.slice none 0 0) (.slice none 0 0) ⟨0, pre, [], [0, 0, 0, 0, 0, 0, 0, 0], []⟩ from by
    have := put_in [Value.int .i64 0] (B8 zero32) ([Value.slice none 0 0] ++ ([Value.int .i64 0, .int .i64 0, .int .i64 0, .int .i64 0, .int .i64 0, .int .i64 0, .int .i64 0, .int .i64 0] ++ [Value.slice none 0 0])) (B8 pre) 0 (by rw [B8_len, B8_len, h]; decide)
    rw [put_all _ _ (by rw [B8_len, B8_len, h]; rfl)] at this
    exact this]
  rfl
def bankAt (e : Int) (q : Nat) : List Int := List.replicate q e ++ List.replicate (8 - q) 0
theorem bankAt_set (e : Int) (q : Nat) (h : q < 8) : (bankAt e q).set q e = bankAt e (q + 1) := by
  have : q = 0 ∨ q = 1 ∨ q = 2 ∨ q = 3 ∨ q = 4 ∨ q = 5 ∨ q = 6 ∨ q = 7 := by omega
  rcases this with rfl | rfl | rfl | rfl | rfl | rfl | rfl | rfl <;> rfl
theorem bankAt_len (e : Int) (q : Nat) (h : q ≤ 8) : (bankAt e q).length = 8 := by simp [bankAt]; omega
set_option maxRecDepth 100000 in
set_option maxHeartbeats 2000000 in
theorem newC_any (pre : List UInt8) (hp : pre.length = 32) (e : Int) (h0 : 0 ≤ e) (h1 : e ≤ 10000) (w : World) :
    Calls Try.prog 16 #[hv pre, .int .i64 e] w (RCe w ⟨0, pre, [], List.replicate 8 e, []⟩ 0) := by
  unfold hv
  obtain ⟨W, HW, hbw, bp, bz⟩ : ∃ W, Hid (W = (w.alloc (.cells (B8 pre).toArray 25)).alloc (.cells #[.int .i64 0, .int .u8 0, .int .u8 0, .int .u8 0, .int .u8 0, .int .u8 0, .int .u8 0, .int .u8 0, .int .u8 0, .int .u8 0, .int .u8 0, .int .u8 0, .int .u8 0, .int .u8 0, .int .u8 0, .int .u8 0, .int .u8 0, .int .u8 0, .int .u8 0, .int .u8 0, .int .u8 0, .int .u8 0, .int .u8 0, .int .u8 0, .int .u8 0, .int .u8 0, .int .u8 0, .int .u8 0, .int .u8 0, .int .u8 0, .int .u8 0, .int .u8 0, .int .u8 0, .slice none 0 0, .int .i64 0, .int .i64 0, .int .i64 0, .int .i64 0, .int .i64 0, .int .i64 0, .int .i64 0, .int .i64 0, .slice none 0 0] 30)) ∧ Below w.heap.size w W ∧
      Blk W w.heap.size 25 (B8 pre) ∧ Blk W (w.heap.size + 1) 30 zeroCC := by
    refine ⟨_, rfl, ((Below.refl _ _).alloc (Nat.le_refl _) _).alloc (by simp) _, ?_, ?_⟩
    · exact (Blk.new w (B8 pre).toArray 25).to ((Below.refl _ _).alloc (Nat.le_refl _) _)
    · have := Blk.new (w.alloc (.cells (B8 pre).toArray 25)) #[.int .i64 0, .int .u8 0, .int .u8 0, .int .u8 0, .int .u8 0, .int .u8 0, .int .u8 0, .int .u8 0, .int .u8 0, .int .u8 0, .int .u8 0, .int .u8 0, .int .u8 0, .int .u8 0, .int .u8 0, .int .u8 0, .int .u8 0, .int .u8 0, .int .u8 0, .int .u8 0, .int .u8 0, .int .u8 0, .int .u8 0, .int .u8 0, .int .u8 0, .int .u8 0, .int .u8 0, .int .u8 0, .int .u8 0, .int .u8 0, .int .u8 0, .int .u8 0, .int .u8 0, .slice none 0 0, .int .i64 0, .int .i64 0, .int .i64 0, .int .i64 0, .int .i64 0, .int .i64 0, .int .i64 0, .int .i64 0, .slice none 0 0] 30
      rw [show (w.alloc (.cells (B8 pre).toArray 25)).heap.size = w.heap.size + 1 from by simp] at this
      exact this
  have HP := Lib.hid hp
  have HB := Lib.hid (built_court pre hp)
  have hWz := bz.lt
  have ICO : Hid ((Try.prog.info? 30).map (·.size) = some (coC (.slice none 0 0) (.slice none 0 0) ⟨0, pre, [], [0, 0, 0, 0, 0, 0, 0, 0], []⟩).length) := Lib.hid (info_co hp rfl)
  clear hp
  go_enter Try.func16, Try.ntmps16
  go_upto_region 1 with fail
  refine wp_at HW.out ?_
  clear HW
  go_wp2_with (first
    | (refine wpl_load_fld (by rfl) _ _ rfl w.heap.size 0 rfl (B8 pre) _ bp.range Try.underlying25 rfl (info_hash HP.out) ?_)
    | (refine wpl_build (by rfl) _ _ rfl _ HB.out ?_)
    | (refine wpl_store_new rfl _ _ _ rfl 30 _ (coC (.slice none 0 0) (.slice none 0 0) ⟨0, pre, [], [0, 0, 0, 0, 0, 0, 0, 0], []⟩) rfl rfl (by rw [coC_len HP.out rfl]; rfl) ICO.out (coC_one rfl rfl) ?_
       intro w1 bq hb1
       simp only [Act.put, List.setIfInBounds_toArray, List.set_cons_zero, List.set_cons_succ]))
  have bz1 := bz.to hb1
  have f1 := hbw.trans (hb1.mono hbw.size)
  obtain ⟨Q, hQ⟩ : ∃ Q, W.heap.size = Q := ⟨_, rfl⟩
  have hwQ : w.heap.size + 1 < Q := by rw [← hQ]; exact hWz
  rw [hQ] at bq ⊢
  clear bp bz hb1 hQ hWz hbw
  go_loopw [17] (fun k wr => ∃ q : Nat, k = .int .i64 (q : Int) ∧ q ≤ 8 ∧ Blk wr Q 30 (coC (.slice none 0 0) (.slice none 0 0) ⟨0, pre, [], bankAt e q, []⟩) ∧ Blk wr (w.heap.size + 1) 30 zeroCC ∧ Below w.heap.size w wr) (fun k _ => 8 - (intOf k).toNat)
  case atStart => exact ⟨0, rfl, Nat.zero_le _, bq, bz1, f1⟩
  case round =>
    clear bq bz1 f1
    obtain ⟨q, rfl, hq, bq, bz, hf⟩ := hrel
    by_cases hlt : q < 8
    · have t1 : (q : Int) < 8 := by omega
      have hbl := bankAt_len e q (by omega)
      have kq : wr.cell? ⟨Q, 34 + q, none⟩ = some (.int .i64 ((bankAt e q).getD q 0)) := by rw [bq.cell]; exact co_bank HP.out hbl q hlt
      have fq := bq.fz (34 + q)
      go_wp2_with fail
      have bq2 : Blk (wr.setCell ⟨Q, 34 + q, none⟩ (.int .i64 e)) Q 30 (coC (.slice none 0 0) (.slice none 0 0) ⟨0, pre, [], bankAt e (q + 1), []⟩) := co_store bq (by rw [coC_len HP.out hbl]; omega) (by rw [put_bank HP.out hbl q hlt, ← bankAt_set e q hlt])
      have u2 : RBut (some Q) wr (wr.setCell ⟨Q, 34 + q, none⟩ (.int .i64 e)) := RBut.setC _ _ _ _
      refine ⟨⟨q + 1, by go_num, by omega, bq2, bz.but u2 (by intro e; injection e; omega), hf.trans (below_but u2 (by omega) hf.size)⟩, ?_⟩
      simp [intOf]; omega
    · obtain rfl : q = 8 := by omega
      have t1 : ¬ (8 : Int) < 8 := by omega
      have hbe : bankAt e 8 = List.replicate 8 e := by simp [bankAt]
      rw [hbe] at bq
      have IC2 : Hid ((Try.prog.info? 30).map (·.size) = some (coC (.slice none 0 0) (.slice none 0 0) ⟨0, pre, [], List.replicate 8 e, []⟩).length) := Lib.hid (info_co HP.out rfl)
      go_wp2_with (first
        | (refine wpl_load_fld (by rfl) _ _ rfl Q 0 rfl (coC (.slice none 0 0) (.slice none 0 0) ⟨0, pre, [], List.replicate 8 e, []⟩) _ bq.range Try.underlying30 rfl IC2.out ?_)
        | (refine wpl_store_fld (by rfl) _ _ _ rfl (w.heap.size + 1) 0 _ _ (coC (.slice none 0 0) (.slice none 0 0) ⟨0, pre, [], List.replicate 8 e, []⟩) rfl _ rfl rfl bz (by rw [coC_len HP.out rfl]; exact Nat.le_refl _) IC2.out (coC_one rfl rfl) ?_
           intro wz bzz buz
           rw [put_all _ _ (by rw [coC_len HP.out rfl]; rfl)] at bzz))
      refine bodyPost_ret (results_blk2 Try.results16 rfl rfl bzz Try.underlying30 rfl IC2.out) rfl ?_
      exact ⟨_, rfl, fun S _ => ⟨_, _, rfl, ⟨none, 0, 0, rfl, Sl.nil_, rfl, Nat.le_refl _, fun _ h => by cases h⟩, ⟨none, 0, 0, [], rfl, Sl.nil_, rfl, rfl, Nat.le_refl _, fun _ h => (by cases h), fun _ h => by cases h⟩⟩, hf.trans (below_but buz (by omega) hf.size)⟩
def partyB (i : Int) : Prop := 0 ≤ i ∧ i < 8
instance (i : Int) : Decidable (partyB i) := by unfold partyB; infer_instance
theorem party_yes (i : Int) (w : World) (h : partyB i) : Calls Try.prog 31 #[.int .i64 i] w fun e w' => e = .returned (.bool true) ∧ w = w' := by
  obtain ⟨h1, h2⟩ := h
  go_enter Try.func31, Try.ntmps31
  go_wp2
  go_ret
  exact ⟨rfl, rfl⟩
theorem party_no (i : Int) (w : World) (h : ¬ partyB i) : Calls Try.prog 31 #[.int .i64 i] w fun e w' => e = .returned (.bool false) ∧ w = w' := by
  unfold partyB at h
  by_cases h1 : 0 ≤ i
  · have h2 : ¬ i < 8 := by omega
    clear h
    go_enter Try.func31, Try.ntmps31
    go_wp2
    go_ret
    exact ⟨rfl, rfl⟩
  · clear h
    go_enter Try.func31, Try.ntmps31
    go_wp2
    go_ret
    exact ⟨rfl, rfl⟩
/-- a court is boxed, beside a block for what is handed back -/
theorem box_co (w : World) (vt vc : Value) (c : CO) : ∃ W, Hid (W = (w.alloc (.cells (coC vt vc c).toArray 30)).alloc (.cells #[.int .i64 0, .int .u8 0, .int .u8 0, .int .u8 0, .int .u8 0, .int .u8 0, .int .u8 0, .int .u8 0, .int .u8 0, .int .u8 0, .int .u8 0, .int .u8 0, .int .u8 0, .int .u8 0, .int .u8 0, .int .u8 0, .int .u8 0, .int .u8 0, .int .u8 0, .int .u8 0, .int .u8 0, .int .u8 0, .int .u8 0, .int .u8 0, .int .u8 0, .int .u8 0, .int .u8 0, .int .u8 0, .int .u8 0, .int .u8 0, .int .u8 0, .int .u8 0, .int .u8 0, .slice none 0 0, .int .i64 0, .int .i64 0, .int .i64 0, .int .i64 0, .int .i64 0, .int .i64 0, .int .i64 0, .int .i64 0, .slice none 0 0] 30)) ∧ Below w.heap.size w W ∧
    Blk W w.heap.size 30 (coC vt vc c) ∧ Blk W (w.heap.size + 1) 30 zeroCC := by
  refine ⟨_, rfl, ((Below.refl _ _).alloc (Nat.le_refl _) _).alloc (by simp) _, ?_, ?_⟩
  · exact (Blk.new w (coC vt vc c).toArray 30).to ((Below.refl _ _).alloc (Nat.le_refl _) _)
  · have := Blk.new (w.alloc (.cells (coC vt vc c).toArray 30)) #[.int .i64 0, .int .u8 0, .int .u8 0, .int .u8 0, .int .u8 0, .int .u8 0, .int .u8 0, .int .u8 0, .int .u8 0, .int .u8 0, .int .u8 0, .int .u8 0, .int .u8 0, .int .u8 0, .int .u8 0, .int .u8 0, .int .u8 0, .int .u8 0, .int .u8 0, .int .u8 0, .int .u8 0, .int .u8 0, .int .u8 0, .int .u8 0, .int .u8 0, .int .u8 0, .int .u8 0, .int .u8 0, .int .u8 0, .int .u8 0, .int .u8 0, .int .u8 0, .int .u8 0, .slice none 0 0, .int .i64 0, .int .i64 0, .int .i64 0, .int .i64 0, .int .i64 0, .int .i64 0, .int .i64 0, .int .i64 0, .slice none 0 0] 30
    rw [show (w.alloc (.cells (coC vt vc c).toArray 30)).heap.size = w.heap.size + 1 from by simp] at this
    exact this
set_option maxRecDepth 100000 in
set_option maxHeartbeats 2000000 in
theorem addC_any (v : Value) (c : CO) (hc : c.ok) (A : Option Addr) (n cc : Nat) (l : List (List UInt8)) (hl : ∀ x ∈ l, x.length = 32) (w : World) (sl : Sl w 32 A n (H8 l)) (hn : l.length = n) (h5 : c.txs.length + n ≤ 500) (h : CoX [] w v c) :
    Calls Try.prog 17 #[v, .slice A n cc] w (RCe w { c with txs := c.txs ++ l } 0) := by
  obtain ⟨vt, vc, rfl, hx⟩ := h
  have hX : CoX [] w (.agg (coC vt vc c).toArray) c := ⟨vt, vc, rfl, hx⟩
  obtain ⟨W, HW, hbw, bp, bz⟩ := box_co w vt vc c
  have HC := Lib.hid hc
  have HL := Lib.hid hl
  have HPR := Lib.hid (And.intro hc.pre hc.bank)
  have ICO := Lib.hid (info_co (vt := vt) (vc := vc) hc.pre hc.bank)
  have hWz := bz.lt
  have hvt := hx.1.one
  have hvc := hx.2.one
  have hXW := hX.to hbw
  have HTL : Hid ((H8 c.txs).length = c.txs.length * 32) := (show _ = _ by rw [H8_len _ hc.txs, Nat.mul_comm])
  clear hc hl hx hX
  go_enter Try.func17, Try.ntmps17
  go_upto_region 1 with fail
  refine wp_at HW.out ?_
  clear HW
  go_wp2_with (first
    | (refine wpl_load_fld (by rfl) _ _ rfl w.heap.size 0 rfl (coC vt vc c) _ bp.range Try.underlying30 rfl ICO.out ?_))
  refine (ownC_any _ c HC.out W hXW).mono ?_
  rintro e w1 ⟨T, vc1, rfl, hT, bT, hcl, hb1⟩
  have bp1 := bp.to hb1
  have bz1 := bz.to hb1
  have f1 := hbw.trans (hb1.mono hbw.size)
  have IC1 := Lib.hid (info_co (vt := .slice (some ⟨T, 0, none⟩) c.txs.length c.txs.length) (vc := vc1) HPR.out.1 HPR.out.2)
  have hv1 := (hcl.x (S := []) (fun _ h => by cases h)).one
  clear bp bz hb1 hbw hXW ICO
  go_wp2_with (first
    | (refine wpl_store_fld (by rfl) _ _ _ rfl w.heap.size 0 _ _ (coC (.slice (some ⟨T, 0, none⟩) c.txs.length c.txs.length) vc1 c) rfl _ rfl rfl bp1 (by rw [coC_len HPR.out.1 HPR.out.2, coC_len HPR.out.1 HPR.out.2]; exact Nat.le_refl _) IC1.out (coC_one rfl hv1) ?_
       intro w2 bp2 bu2
       rw [put_all _ _ (by rw [coC_len HPR.out.1 HPR.out.2, coC_len HPR.out.1 HPR.out.2])] at bp2
       have k33 : w2.cell? ⟨w.heap.size, 33, none⟩ = some (.slice (some ⟨T, 0, none⟩) c.txs.length c.txs.length) := by rw [bp2.cell]; exact co_txs HPR.out.1
       have bT2 := bT.but bu2 (by intro e; injection e; omega)
       have oT := own_blk bT2 HTL.out (by simp only [maxLen]; omega)
       have hT2 := bT2.lt
       have hcl2 := hcl.but bu2 (by omega)
       have bz2 := bz1.but bu2 (by intro e; injection e; omega)
       have f2 := f1.trans (below_but bu2 (Nat.le_refl _) f1.size)
       have sl2 := sl.to f2
       clear bT bu2 hcl bz1 f1 bp1)
    | (at_builtin
       refine wpl_app _ _ _ _ elH rfl rfl rfl oT rfl sl2 (H8_one _) (by omega) (by omega) (by omega) ?_
       intro A3 c3 w3 g3
       have sl3 : Sl w3 32 A3 (c.txs.length + n) (H8 (c.txs ++ l)) := (by have := g3.own.sl; rw [H8_app]; exact this)
       have hb3 : Below T w2 w3 := g3.below oT (by omega)
       have hcl3 := hcl2.but (p := T) g3.grow (by omega)
       have bp3 := bp2.below hb3 (by omega)
       have bz3 := bz2.below hb3 (by omega)
       have f3 := f2.trans (hb3.mono (by omega))
       clear g3 oT sl2 hcl2 bp2 bz2 f2 k33))
  have hall : ∀ x ∈ c.txs ++ l, x.length = 32 := fun x hx => by
    rcases List.mem_append.1 hx with h | h
    · exact HC.out.txs x h
    · exact HL.out x h
  have HALL := Lib.hid hall
  refine (hashes_copy A3 (c.txs.length + n) c3 (c.txs ++ l) w3 sl3 (by omega)).mono ?_
  rintro e w4 ⟨rfl, bN, hb4⟩
  have bp4 := bp3.to hb4
  have bz4 := bz3.to hb4
  have hcl4 := hcl3.to hb4
  have f4 := f3.trans (hb4.mono f3.size)
  have fz4 := bp4.fz 33
  have k4 : w4.cell? ⟨w.heap.size, 33, none⟩ = some (.slice (some ⟨T, 0, none⟩) c.txs.length c.txs.length) := by rw [bp4.cell]; exact co_txs HPR.out.1
  obtain ⟨T3, hT3⟩ : ∃ T3, w3.heap.size = T3 := ⟨_, rfl⟩
  rw [hT3] at bN ⊢
  have hwT3 : w.heap.size + 1 < T3 := by rw [← hT3]; exact bz3.lt
  have bp5 : Blk (w4.setCell ⟨w.heap.size, 33, none⟩ (.slice (some ⟨T3, 0, none⟩) (c.txs.length + n) (c.txs.length + n))) w.heap.size 30 (coC (.slice (some ⟨T3, 0, none⟩) (c.txs.length + n) (c.txs.length + n)) vc1 { c with txs := c.txs ++ l }) := co_store bp4 (by rw [coC_len HPR.out.1 HPR.out.2]; omega) (put_txs HPR.out.1 _)
  have u5 : RBut (some w.heap.size) w4 (w4.setCell ⟨w.heap.size, 33, none⟩ (.slice (some ⟨T3, 0, none⟩) (c.txs.length + n) (c.txs.length + n))) := RBut.setC _ _ _ _
  have HLZ : Hid ((coC (.slice (some ⟨T3, 0, none⟩) (c.txs.length + n) (c.txs.length + n)) vc1 { c with txs := c.txs ++ l }).length = 43) := Lib.hid (coC_len HPR.out.1 HPR.out.2)
  have ICZ := Lib.hid (info_co (vt := .slice (some ⟨T3, 0, none⟩) (c.txs.length + n) (c.txs.length + n)) (vc := vc1) (c := { c with txs := c.txs ++ l }) HPR.out.1 HPR.out.2)
  clear hall bp3 bz3 hcl3 f3 hb4 hT3 sl3
  go_wp2_with (first
    | (refine wpl_at (w' := w4.setCell ⟨w.heap.size, 33, none⟩ (.slice (some ⟨T3, 0, none⟩) (c.txs.length + n) (c.txs.length + n))) rfl ?_
       generalize w4.setCell ⟨w.heap.size, 33, none⟩ (.slice (some ⟨T3, 0, none⟩) (c.txs.length + n) (c.txs.length + n)) = w5 at *
       refine wpl_load_fld (by rfl) _ _ rfl w.heap.size 0 rfl (coC (.slice (some ⟨T3, 0, none⟩) (c.txs.length + n) (c.txs.length + n)) vc1 { c with txs := c.txs ++ l }) _ bp5.range Try.underlying30 rfl ICZ.out ?_
       have bz5 := bz4.but u5 (by intro e; injection e; omega)
       have f5 := f4.trans (below_but u5 (Nat.le_refl _) f4.size)
       have bN5 := bN.but u5 (by intro e; injection e; omega)
       have hcl5 := hcl4.but u5 (by omega))
    | (refine wpl_store_fld (by rfl) _ _ _ rfl (w.heap.size + 1) 0 _ _ (coC (.slice (some ⟨T3, 0, none⟩) (c.txs.length + n) (c.txs.length + n)) vc1 { c with txs := c.txs ++ l }) rfl _ rfl rfl bz5 (by rw [HLZ.out]; exact Nat.le_refl _) ICZ.out (coC_one rfl hv1) ?_
       intro w6 bz6 bu6
       rw [put_all _ _ (by rw [HLZ.out]; rfl)] at bz6))
  refine bodyPost_ret (results_blk2 Try.results17 rfl rfl bz6 Try.underlying30 rfl ICZ.out) rfl ?_
  have hl5 : (H8 (c.txs ++ l)).length = (c.txs.length + n) * 32 := by rw [H8_len _ HALL.out, List.length_append, hn, Nat.mul_comm]
  refine ⟨_, rfl, fun S hS => ⟨_, vc1, rfl, ⟨_, _, _, rfl, (bN5.sl hl5).but2 bu6 (fun b hb => by have hb' : T3 = b := (by injection hb); subst hb'; intro e; injection e; omega), by rw [List.length_append, hn], Nat.le_refl _, fun b hb hm => by have hb' : T3 = b := (by injection hb); have := hS b hm; omega⟩, (hcl5.but bu6 (by omega)).x (fun b hb => by have := hS b hb; omega)⟩, f5.trans (below_but bu6 (by omega) f5.size)⟩
end Go.Proofs.Ytdopgooglicaiaa
/- The walk of court.expire, where a claim has no suits. -/
set_option linter.unusedSimpArgs false
set_option linter.unusedVariables false
namespace Go.Proofs.Ytdopgooglicaiaa
open Go.RowKit
set_option maxRecDepth 100000
def Exp0 (P CB : Nat) (vt : Value) (c : CO) (x : CL) (As : Option Addr) (cs cc : Nat) (rest : List Value) (b : Nat) (w' : World) : Prop :=
  (x.st = 1 ∧ 3 < c.now - x.at_ → Blk w' P 30 (coC vt (.slice (some ⟨CB, 0, none⟩) 1 cc) { c with bank := c.bank.set b (c.bank.getD b 0 + 100) }) ∧ Blk w' CB 39 (clF (.slice As 0 cs, { x with st := 2 }) ++ rest)) ∧
  (¬ (x.st = 1 ∧ 3 < c.now - x.at_) → Blk w' P 30 (coC vt (.slice (some ⟨CB, 0, none⟩) 1 cc) c) ∧ Blk w' CB 39 (clF (.slice As 0 cs, x) ++ rest))
theorem results_none {fn : Func} (h : fn.results = #[]) (tmps : Array Value) (P : Program) (w : World) : (results fn tmps).run P w = .ok (.tuple #[]) w := by
  simp [results, h]
theorem put_front (M Y new : List Value) (o : Nat) (ho : o + new.length ≤ M.length) : put_ (M ++ Y) o new = put_ M o new ++ Y := by
  have := put_in [] M Y new o ho
  simpa using this
/-- all blocks but two are as they were -/
structure Ex2 (p q : Nat) (w w' : World) : Prop where
  os : w'.os = w.os
  tape : w'.tape = w.tape
  output : w'.output = w.output
  size : w.heap.size ≤ w'.heap.size
  block : ∀ k, k < w.heap.size → k ≠ p → k ≠ q → w'.heap[k]? = w.heap[k]?
set_option maxRecDepth 100000 in
theorem index0 (As : Option Addr) (cs : Nat) (f : Value) (w : World) : Calls Try.prog 56 #[.slice As 0 cs, f] w fun e w' => e = .returned (.int .i64 (-1)) ∧ w = w' := by
  go_enter Try.func56, Try.ntmps56
  go_wp2_with fail
  go_loopw [8] (fun k wr => k = .int .i64 0 ∧ wr = w) (fun _ _ => 0)
  case atStart => exact ⟨rfl, rfl⟩
  case round =>
    obtain ⟨rfl, rfl⟩ := hrel
    go_wp2_with fail
    go_ret
    exact ⟨rfl, rfl⟩
set_option maxRecDepth 100000 in
theorem contains0 (As : Option Addr) (cs : Nat) (f : Value) (w : World) : Calls Try.prog 63 #[.slice As 0 cs, f] w fun e w' => e = .returned (.bool false) ∧ w = w' := by
  go_enter Try.func63, Try.ntmps63
  go_wp2_with fail
  refine (index0 As cs f w).mono ?_
  rintro e w' ⟨rfl, rfl⟩
  go_wp2_with fail
  go_ret
  exact ⟨rfl, rfl⟩
set_option maxRecDepth 100000 in
set_option maxHeartbeats 2000000 in
theorem expire0_any (P CB : Nat) (vt : Value) (c : CO) (x : CL) (hp : c.pre.length = 32) (hb : c.bank.length = 8) (hr : x.root.length = 32) (As : Option Addr) (cs cc : Nat) (rest : List Value) (w : World)
    (bp : Blk w P 30 (coC vt (.slice (some ⟨CB, 0, none⟩) 1 cc) c)) (bc : Blk w CB 39 (clF (.slice As 0 cs, x) ++ rest)) (hne : P ≠ CB) (b : Nat) (hb8 : b < 8) (hby : x.by_ = (b : Int)) (hn0 : 0 ≤ c.now ∧ c.now ≤ 1000000) (ha0 : 0 ≤ x.at_ ∧ x.at_ ≤ 1000000)
    (hbk : 0 ≤ c.bank.getD b 0 ∧ c.bank.getD b 0 ≤ 1000000) :
    Calls Try.prog 34 #[.pointer (some ⟨P, 0, none⟩), .int .i64 0] w fun e w' => e = .returned (.tuple #[]) ∧ Ex2 P CB w w' ∧ Exp0 P CB vt c x As cs cc rest b w' := by
  have k42 : w.cell? ⟨P, 42, none⟩ = some (.slice (some ⟨CB, 0, none⟩) 1 cc) := by rw [bp.cell]; exact co_claims hp hb
  have k36 : w.cell? ⟨CB, 36, none⟩ = some (.slice As 0 cs) := by rw [bc.cell, List.getElem?_append_left (by rw [clF_len hr]; omega)]; exact cl_suits hr
  have k3 : w.cell? ⟨CB, 3, none⟩ = some (.int .i64 x.st) := by rw [bc.cell, List.getElem?_append_left (by rw [clF_len hr]; omega)]; exact cl_st
  have k2 : w.cell? ⟨CB, 2, none⟩ = some (.int .i64 x.at_) := by rw [bc.cell, List.getElem?_append_left (by rw [clF_len hr]; omega)]; exact cl_at
  have k0 : w.cell? ⟨P, 0, none⟩ = some (.int .i64 c.now) := by rw [bp.cell]; exact co_now
  by_cases hst : x.st = 1
  · rw [hst] at k3
    go_enter Try.func34, Try.ntmps34
    go_wp2_with fail
    go_loopw [5] (fun k wr => k = .int .i64 0 ∧ wr = w) (fun _ _ => 0)
    case atStart => exact ⟨rfl, rfl⟩
    case round =>
      obtain ⟨rfl, rfl⟩ := hrel
      have wd : IntKind.i64.wrap (c.now - x.at_) = c.now - x.at_ := IntWalk.i64_in _ (by omega)
      by_cases hw : c.now - x.at_ ≤ 3
      · go_wp2_with fail
        refine wp_region_P (.take 0 (.take 1 (.take 2 (.take 3 (.take 4 (.take 5 (.take 6 (.take 7 (.take 8 (.take 9 (.take 10 (.take 11 (.take 12 (.take 13 (.take 14 (.take 15 (.take 16 .done))))))))))))))))) ((fun a b => a = b)) (by kernel_rfl) (by kernel_rfl) (by kernel_rfl) (by decide +kernel) (fun _ => rfl) (fun _ _ _ h k => h.trans k) (by intro d v c a w h; first | (cases d <;> exact h) | exact absurd h.1 (by simp)) ?_
        have d36 : wr.drew.cell? ⟨CB, 36, none⟩ = some (.slice As 0 cs) := k36
        have d3 : wr.drew.cell? ⟨CB, 3, none⟩ = some (.int .i64 1) := k3
        have d2 : wr.drew.cell? ⟨CB, 2, none⟩ = some (.int .i64 x.at_) := k2
        have d0 : wr.drew.cell? ⟨P, 0, none⟩ = some (.int .i64 c.now) := k0
        have bpd : Blk wr.drew P 30 (coC vt (.slice (some ⟨CB, 0, none⟩) 1 cc) c) := bp
        have bcd : Blk wr.drew CB 39 (clF (.slice As 0 cs, x) ++ rest) := bc
        have fd : Ex2 P CB wr wr.drew := ⟨rfl, rfl, rfl, Nat.le_refl _, fun _ _ _ _ => rfl⟩
        clear k36 k3 k2 k0 k42 bp bc
        generalize wr.drew = V0 at *
        first | (refine wpP_quiet (v := ?_) rfl (by rfl) ?_ ?_; rotate_left; (· (intro w' hw'; subst hw'; go_simp; try with_reducible rfl)); simp only [Act.put, List.setIfInBounds_toArray, List.set_cons_zero, List.set_cons_succ]) | (refine wpP_skip rfl (by rfl) ?_; simp only [Act.put, List.setIfInBounds_toArray, List.set_cons_zero, List.set_cons_succ])
        first | (refine wpP_quiet (v := ?_) rfl (by rfl) ?_ ?_; rotate_left; (· (intro w' hw'; subst hw'; go_simp; try with_reducible rfl)); simp only [Act.put, List.setIfInBounds_toArray, List.set_cons_zero, List.set_cons_succ]) | (refine wpP_skip rfl (by rfl) ?_; simp only [Act.put, List.setIfInBounds_toArray, List.set_cons_zero, List.set_cons_succ])
        first | (refine wpP_quiet (v := ?_) rfl (by rfl) ?_ ?_; rotate_left; (· (intro w' hw'; subst hw'; go_simp; try with_reducible rfl)); simp only [Act.put, List.setIfInBounds_toArray, List.set_cons_zero, List.set_cons_succ]) | (refine wpP_skip rfl (by rfl) ?_; simp only [Act.put, List.setIfInBounds_toArray, List.set_cons_zero, List.set_cons_succ])
        first | (refine wpP_quiet (v := ?_) rfl (by rfl) ?_ ?_; rotate_left; (· (intro w' hw'; subst hw'; go_simp; try with_reducible rfl)); simp only [Act.put, List.setIfInBounds_toArray, List.set_cons_zero, List.set_cons_succ]) | (refine wpP_skip rfl (by rfl) ?_; simp only [Act.put, List.setIfInBounds_toArray, List.set_cons_zero, List.set_cons_succ])
        first | (refine wpP_quiet (v := ?_) rfl (by rfl) ?_ ?_; rotate_left; (· (intro w' hw'; subst hw'; go_simp; try with_reducible rfl)); simp only [Act.put, List.setIfInBounds_toArray, List.set_cons_zero, List.set_cons_succ]) | (refine wpP_skip rfl (by rfl) ?_; simp only [Act.put, List.setIfInBounds_toArray, List.set_cons_zero, List.set_cons_succ])
        first | (refine wpP_quiet (v := ?_) rfl (by rfl) ?_ ?_; rotate_left; (· (intro w' hw'; subst hw'; go_simp; try with_reducible rfl)); simp only [Act.put, List.setIfInBounds_toArray, List.set_cons_zero, List.set_cons_succ]) | (refine wpP_skip rfl (by rfl) ?_; simp only [Act.put, List.setIfInBounds_toArray, List.set_cons_zero, List.set_cons_succ])
        first | (refine wpP_quiet (v := ?_) rfl (by rfl) ?_ ?_; rotate_left; (· (intro w' hw'; subst hw'; go_simp; try with_reducible rfl)); simp only [Act.put, List.setIfInBounds_toArray, List.set_cons_zero, List.set_cons_succ]) | (refine wpP_skip rfl (by rfl) ?_; simp only [Act.put, List.setIfInBounds_toArray, List.set_cons_zero, List.set_cons_succ])
        first | (refine wpP_quiet (v := ?_) rfl (by rfl) ?_ ?_; rotate_left; (· (intro w' hw'; subst hw'; go_simp; try with_reducible rfl)); simp only [Act.put, List.setIfInBounds_toArray, List.set_cons_zero, List.set_cons_succ]) | (refine wpP_skip rfl (by rfl) ?_; simp only [Act.put, List.setIfInBounds_toArray, List.set_cons_zero, List.set_cons_succ])
        first | (refine wpP_quiet (v := ?_) rfl (by rfl) ?_ ?_; rotate_left; (· (intro w' hw'; subst hw'; go_simp; try with_reducible rfl)); simp only [Act.put, List.setIfInBounds_toArray, List.set_cons_zero, List.set_cons_succ]) | (refine wpP_skip rfl (by rfl) ?_; simp only [Act.put, List.setIfInBounds_toArray, List.set_cons_zero, List.set_cons_succ])
        first | (refine wpP_quiet (v := ?_) rfl (by rfl) ?_ ?_; rotate_left; (· (intro w' hw'; subst hw'; go_simp; try with_reducible rfl)); simp only [Act.put, List.setIfInBounds_toArray, List.set_cons_zero, List.set_cons_succ]) | (refine wpP_skip rfl (by rfl) ?_; simp only [Act.put, List.setIfInBounds_toArray, List.set_cons_zero, List.set_cons_succ])
        first | (refine wpP_quiet (v := ?_) rfl (by rfl) ?_ ?_; rotate_left; (· (intro w' hw'; subst hw'; go_simp; try with_reducible rfl)); simp only [Act.put, List.setIfInBounds_toArray, List.set_cons_zero, List.set_cons_succ]) | (refine wpP_skip rfl (by rfl) ?_; simp only [Act.put, List.setIfInBounds_toArray, List.set_cons_zero, List.set_cons_succ])
        first | (refine wpP_quiet (v := ?_) rfl (by rfl) ?_ ?_; rotate_left; (· (intro w' hw'; subst hw'; go_simp; try with_reducible rfl)); simp only [Act.put, List.setIfInBounds_toArray, List.set_cons_zero, List.set_cons_succ]) | (refine wpP_skip rfl (by rfl) ?_; simp only [Act.put, List.setIfInBounds_toArray, List.set_cons_zero, List.set_cons_succ])
        first | (refine wpP_quiet (v := ?_) rfl (by rfl) ?_ ?_; rotate_left; (· (intro w' hw'; subst hw'; go_simp; try with_reducible rfl)); simp only [Act.put, List.setIfInBounds_toArray, List.set_cons_zero, List.set_cons_succ]) | (refine wpP_skip rfl (by rfl) ?_; simp only [Act.put, List.setIfInBounds_toArray, List.set_cons_zero, List.set_cons_succ])
        first | (refine wpP_quiet (v := ?_) rfl (by rfl) ?_ ?_; rotate_left; (· (intro w' hw'; subst hw'; go_simp; try with_reducible rfl)); simp only [Act.put, List.setIfInBounds_toArray, List.set_cons_zero, List.set_cons_succ]) | (refine wpP_skip rfl (by rfl) ?_; simp only [Act.put, List.setIfInBounds_toArray, List.set_cons_zero, List.set_cons_succ])
        first | (refine wpP_quiet (v := ?_) rfl (by rfl) ?_ ?_; rotate_left; (· (intro w' hw'; subst hw'; go_simp; try with_reducible rfl)); simp only [Act.put, List.setIfInBounds_toArray, List.set_cons_zero, List.set_cons_succ]) | (refine wpP_skip rfl (by rfl) ?_; simp only [Act.put, List.setIfInBounds_toArray, List.set_cons_zero, List.set_cons_succ])
        first | (refine wpP_quiet (v := ?_) rfl (by rfl) ?_ ?_; rotate_left; (· (intro w' hw'; subst hw'; go_simp; try with_reducible rfl)); simp only [Act.put, List.setIfInBounds_toArray, List.set_cons_zero, List.set_cons_succ]) | (refine wpP_skip rfl (by rfl) ?_; simp only [Act.put, List.setIfInBounds_toArray, List.set_cons_zero, List.set_cons_succ])
        first | (refine wpP_quiet (v := ?_) rfl (by rfl) ?_ ?_; rotate_left; (· (intro w' hw'; subst hw'; go_simp; try with_reducible rfl)); simp only [Act.put, List.setIfInBounds_toArray, List.set_cons_zero, List.set_cons_succ]) | (refine wpP_skip rfl (by rfl) ?_; simp only [Act.put, List.setIfInBounds_toArray, List.set_cons_zero, List.set_cons_succ])
        refine wpP_done ?_
        go_wp2_with fail
        refine bodyPost_ret (results_none rfl _ _ _) rfl ?_
        refine ⟨rfl, fd, ?_⟩
        exact ⟨fun h => absurd h.2 (by omega), fun _ => ⟨bpd, bcd⟩⟩
      · go_wp2_with fail
        refine wp_region_P (.take 0 (.take 1 (.take 2 (.take 3 (.take 4 (.take 5 (.take 6 (.take 7 (.take 8 (.take 9 (.take 10 (.take 11 (.take 12 (.take 13 (.take 14 (.take 15 (.take 16 .done))))))))))))))))) ((fun a b => a = b)) (by kernel_rfl) (by kernel_rfl) (by kernel_rfl) (by decide +kernel) (fun _ => rfl) (fun _ _ _ h k => h.trans k) (by intro d v c a w h; first | (cases d <;> exact h) | exact absurd h.1 (by simp)) ?_
        have d36 : wr.drew.cell? ⟨CB, 36, none⟩ = some (.slice As 0 cs) := k36
        have d3 : wr.drew.cell? ⟨CB, 3, none⟩ = some (.int .i64 1) := k3
        have d2 : wr.drew.cell? ⟨CB, 2, none⟩ = some (.int .i64 x.at_) := k2
        have d0 : wr.drew.cell? ⟨P, 0, none⟩ = some (.int .i64 c.now) := k0
        have bpd : Blk wr.drew P 30 (coC vt (.slice (some ⟨CB, 0, none⟩) 1 cc) c) := bp
        have bcd : Blk wr.drew CB 39 (clF (.slice As 0 cs, x) ++ rest) := bc
        have fd : Ex2 P CB wr wr.drew := ⟨rfl, rfl, rfl, Nat.le_refl _, fun _ _ _ _ => rfl⟩
        clear k36 k3 k2 k0 k42 bp bc
        generalize wr.drew = V0 at *
        first | (refine wpP_quiet (v := ?_) rfl (by rfl) ?_ ?_; rotate_left; (· (intro w' hw'; subst hw'; go_simp; try with_reducible rfl)); simp only [Act.put, List.setIfInBounds_toArray, List.set_cons_zero, List.set_cons_succ]) | (refine wpP_skip rfl (by rfl) ?_; simp only [Act.put, List.setIfInBounds_toArray, List.set_cons_zero, List.set_cons_succ])
        first | (refine wpP_quiet (v := ?_) rfl (by rfl) ?_ ?_; rotate_left; (· (intro w' hw'; subst hw'; go_simp; try with_reducible rfl)); simp only [Act.put, List.setIfInBounds_toArray, List.set_cons_zero, List.set_cons_succ]) | (refine wpP_skip rfl (by rfl) ?_; simp only [Act.put, List.setIfInBounds_toArray, List.set_cons_zero, List.set_cons_succ])
        first | (refine wpP_quiet (v := ?_) rfl (by rfl) ?_ ?_; rotate_left; (· (intro w' hw'; subst hw'; go_simp; try with_reducible rfl)); simp only [Act.put, List.setIfInBounds_toArray, List.set_cons_zero, List.set_cons_succ]) | (refine wpP_skip rfl (by rfl) ?_; simp only [Act.put, List.setIfInBounds_toArray, List.set_cons_zero, List.set_cons_succ])
        first | (refine wpP_quiet (v := ?_) rfl (by rfl) ?_ ?_; rotate_left; (· (intro w' hw'; subst hw'; go_simp; try with_reducible rfl)); simp only [Act.put, List.setIfInBounds_toArray, List.set_cons_zero, List.set_cons_succ]) | (refine wpP_skip rfl (by rfl) ?_; simp only [Act.put, List.setIfInBounds_toArray, List.set_cons_zero, List.set_cons_succ])
        first | (refine wpP_quiet (v := ?_) rfl (by rfl) ?_ ?_; rotate_left; (· (intro w' hw'; subst hw'; go_simp; try with_reducible rfl)); simp only [Act.put, List.setIfInBounds_toArray, List.set_cons_zero, List.set_cons_succ]) | (refine wpP_skip rfl (by rfl) ?_; simp only [Act.put, List.setIfInBounds_toArray, List.set_cons_zero, List.set_cons_succ])
        first | (refine wpP_quiet (v := ?_) rfl (by rfl) ?_ ?_; rotate_left; (· (intro w' hw'; subst hw'; go_simp; try with_reducible rfl)); simp only [Act.put, List.setIfInBounds_toArray, List.set_cons_zero, List.set_cons_succ]) | (refine wpP_skip rfl (by rfl) ?_; simp only [Act.put, List.setIfInBounds_toArray, List.set_cons_zero, List.set_cons_succ])
        first | (refine wpP_quiet (v := ?_) rfl (by rfl) ?_ ?_; rotate_left; (· (intro w' hw'; subst hw'; go_simp; try with_reducible rfl)); simp only [Act.put, List.setIfInBounds_toArray, List.set_cons_zero, List.set_cons_succ]) | (refine wpP_skip rfl (by rfl) ?_; simp only [Act.put, List.setIfInBounds_toArray, List.set_cons_zero, List.set_cons_succ])
        first | (refine wpP_quiet (v := ?_) rfl (by rfl) ?_ ?_; rotate_left; (· (intro w' hw'; subst hw'; go_simp; try with_reducible rfl)); simp only [Act.put, List.setIfInBounds_toArray, List.set_cons_zero, List.set_cons_succ]) | (refine wpP_skip rfl (by rfl) ?_; simp only [Act.put, List.setIfInBounds_toArray, List.set_cons_zero, List.set_cons_succ])
        first | (refine wpP_quiet (v := ?_) rfl (by rfl) ?_ ?_; rotate_left; (· (intro w' hw'; subst hw'; go_simp; try with_reducible rfl)); simp only [Act.put, List.setIfInBounds_toArray, List.set_cons_zero, List.set_cons_succ]) | (refine wpP_skip rfl (by rfl) ?_; simp only [Act.put, List.setIfInBounds_toArray, List.set_cons_zero, List.set_cons_succ])
        first | (refine wpP_quiet (v := ?_) rfl (by rfl) ?_ ?_; rotate_left; (· (intro w' hw'; subst hw'; go_simp; try with_reducible rfl)); simp only [Act.put, List.setIfInBounds_toArray, List.set_cons_zero, List.set_cons_succ]) | (refine wpP_skip rfl (by rfl) ?_; simp only [Act.put, List.setIfInBounds_toArray, List.set_cons_zero, List.set_cons_succ])
        first | (refine wpP_quiet (v := ?_) rfl (by rfl) ?_ ?_; rotate_left; (· (intro w' hw'; subst hw'; go_simp; try with_reducible rfl)); simp only [Act.put, List.setIfInBounds_toArray, List.set_cons_zero, List.set_cons_succ]) | (refine wpP_skip rfl (by rfl) ?_; simp only [Act.put, List.setIfInBounds_toArray, List.set_cons_zero, List.set_cons_succ])
        first | (refine wpP_quiet (v := ?_) rfl (by rfl) ?_ ?_; rotate_left; (· (intro w' hw'; subst hw'; go_simp; try with_reducible rfl)); simp only [Act.put, List.setIfInBounds_toArray, List.set_cons_zero, List.set_cons_succ]) | (refine wpP_skip rfl (by rfl) ?_; simp only [Act.put, List.setIfInBounds_toArray, List.set_cons_zero, List.set_cons_succ])
        first | (refine wpP_quiet (v := ?_) rfl (by rfl) ?_ ?_; rotate_left; (· (intro w' hw'; subst hw'; go_simp; try with_reducible rfl)); simp only [Act.put, List.setIfInBounds_toArray, List.set_cons_zero, List.set_cons_succ]) | (refine wpP_skip rfl (by rfl) ?_; simp only [Act.put, List.setIfInBounds_toArray, List.set_cons_zero, List.set_cons_succ])
        first | (refine wpP_quiet (v := ?_) rfl (by rfl) ?_ ?_; rotate_left; (· (intro w' hw'; subst hw'; go_simp; try with_reducible rfl)); simp only [Act.put, List.setIfInBounds_toArray, List.set_cons_zero, List.set_cons_succ]) | (refine wpP_skip rfl (by rfl) ?_; simp only [Act.put, List.setIfInBounds_toArray, List.set_cons_zero, List.set_cons_succ])
        first | (refine wpP_quiet (v := ?_) rfl (by rfl) ?_ ?_; rotate_left; (· (intro w' hw'; subst hw'; go_simp; try with_reducible rfl)); simp only [Act.put, List.setIfInBounds_toArray, List.set_cons_zero, List.set_cons_succ]) | (refine wpP_skip rfl (by rfl) ?_; simp only [Act.put, List.setIfInBounds_toArray, List.set_cons_zero, List.set_cons_succ])
        first | (refine wpP_quiet (v := ?_) rfl (by rfl) ?_ ?_; rotate_left; (· (intro w' hw'; subst hw'; go_simp; try with_reducible rfl)); simp only [Act.put, List.setIfInBounds_toArray, List.set_cons_zero, List.set_cons_succ]) | (refine wpP_skip rfl (by rfl) ?_; simp only [Act.put, List.setIfInBounds_toArray, List.set_cons_zero, List.set_cons_succ])
        first | (refine wpP_quiet (v := ?_) rfl (by rfl) ?_ ?_; rotate_left; (· (intro w' hw'; subst hw'; go_simp; try with_reducible rfl)); simp only [Act.put, List.setIfInBounds_toArray, List.set_cons_zero, List.set_cons_succ]) | (refine wpP_skip rfl (by rfl) ?_; simp only [Act.put, List.setIfInBounds_toArray, List.set_cons_zero, List.set_cons_succ])
        refine wpP_done ?_
        go_wp2_with fail
        have fz3 := bcd.fz 3
        refine (contains0 As cs _ V0).mono ?_
        rintro e V' ⟨rfl, rfl⟩
        go_wp2_with fail
        have bc1 : Blk (V0.setCell ⟨CB, 3, none⟩ (.int .i64 2)) CB 39 (clF (.slice As 0 cs, { x with st := 2 }) ++ rest) := co_store bcd (by rw [List.length_append, clF_len hr]; omega) (by rw [put_front _ _ _ _ (by rw [clF_len hr]; simp), put_st])
        have u1 : RBut (some CB) V0 (V0.setCell ⟨CB, 3, none⟩ (.int .i64 2)) := RBut.setC _ _ _ _
        have HNE := Lib.hid hne
        have bp1 := bpd.but u1 (by intro e; injection e with e; exact HNE.out e)
        have f1 : Ex2 P CB wr (V0.setCell ⟨CB, 3, none⟩ (.int .i64 2)) := ⟨u1.os.trans fd.os, u1.tape.trans fd.tape, u1.output.trans fd.output, Nat.le_trans fd.size u1.size, fun k hk h1 h2 => (u1.block k (Nat.lt_of_lt_of_le hk fd.size) (by intro e; injection e with e; exact h2 e)).trans (fd.block k hk h1 h2)⟩
        generalize V0.setCell ⟨CB, 3, none⟩ (.int .i64 2) = V1 at *
        obtain ⟨z, hz⟩ : ∃ z, c.bank.getD b 0 = z := ⟨_, rfl⟩
        rw [hz] at hbk
        have HZ := Lib.hid hz
        have wz : IntKind.i64.wrap (z + 100) = z + 100 := IntWalk.i64_in _ (by omega)
        clear bcd bpd u1 d36 d3 d2 d0 fd hne hz fz3
        refine wp_region_P (.take 0 (.take 1 (.take 2 (.take 3 (.take 4 (.take 5 (.take 6 (.take 7 (.take 10 (.take 11 (.one 8 (.take 9 (.take 12 (.one 13 .done)))))))))))))) (RBut (some P)) (by kernel_rfl) (by kernel_rfl) (by kernel_rfl) (by decide +kernel) (RBut.refl_ _) (RBut.trans_ _) (by intro d v c a w h; first | (cases d <;> exact h) | exact absurd h.1 (by simp)) ?_
        have bcv : Blk V1.drew CB 39 (clF (.slice As 0 cs, { x with st := 2 }) ++ rest) := bc1
        have bpv : Blk V1.drew P 30 (coC vt (.slice (some ⟨CB, 0, none⟩) 1 cc) c) := bp1
        have fv : Ex2 P CB wr V1.drew := ⟨f1.os, f1.tape, f1.output, f1.size, f1.block⟩
        clear bc1 bp1 f1
        generalize V1.drew = V2 at *
        have kb : V2.cell? ⟨P, 34 + b, none⟩ = some (.int .i64 z) := by rw [bpv.cell, ← HZ.out]; exact co_bank hp hb b hb8
        have fzb := bpv.fz (34 + b)
        have t8 : (b : Int) < 8 := by omega
        have t9 : (0 : Int) ≤ (b : Int) := by omega
        first | (refine wpP_quiet (v := ?_) rfl (by rfl) ?_ ?_; rotate_left; (· (intro w' hw'; go_simp; try with_reducible rfl)); simp only [Act.put, List.setIfInBounds_toArray, List.set_cons_zero, List.set_cons_succ]) | (refine wpP_skip rfl (by rfl) ?_; simp only [Act.put, List.setIfInBounds_toArray, List.set_cons_zero, List.set_cons_succ])
        first | (refine wpP_quiet (v := ?_) rfl (by rfl) ?_ ?_; rotate_left; (· (intro w' hw'; go_simp; try with_reducible rfl)); simp only [Act.put, List.setIfInBounds_toArray, List.set_cons_zero, List.set_cons_succ]) | (refine wpP_skip rfl (by rfl) ?_; simp only [Act.put, List.setIfInBounds_toArray, List.set_cons_zero, List.set_cons_succ])
        first | (refine wpP_quiet (v := ?_) rfl (by rfl) ?_ ?_; rotate_left; (· (intro w' hw'; go_simp; try with_reducible rfl)); simp only [Act.put, List.setIfInBounds_toArray, List.set_cons_zero, List.set_cons_succ]) | (refine wpP_skip rfl (by rfl) ?_; simp only [Act.put, List.setIfInBounds_toArray, List.set_cons_zero, List.set_cons_succ])
        first | (refine wpP_quiet (v := ?_) rfl (by rfl) ?_ ?_; rotate_left; (· (intro w' hw'; go_simp; try with_reducible rfl)); simp only [Act.put, List.setIfInBounds_toArray, List.set_cons_zero, List.set_cons_succ]) | (refine wpP_skip rfl (by rfl) ?_; simp only [Act.put, List.setIfInBounds_toArray, List.set_cons_zero, List.set_cons_succ])
        refine wpP_quiet (v := .int .i64 (b : Int)) rfl (by rfl) (fun w' hw' => by (have kq : w'.cell? ⟨CB, 0, none⟩ = some (.int .i64 (b : Int)) := (by rw [(bcv.but hw' (by intro e; injection e with e; exact HNE.out e.symm)).cell, List.getElem?_append_left (by rw [clF_len hr]; omega), ← hby]; exact cl_by); go_simp; try with_reducible rfl)) ?_
        simp only [Act.put, List.setIfInBounds_toArray, List.set_cons_zero, List.set_cons_succ]
        first | (refine wpP_quiet (v := ?_) rfl (by rfl) ?_ ?_; rotate_left; (· (intro w' hw'; go_simp; try with_reducible rfl)); simp only [Act.put, List.setIfInBounds_toArray, List.set_cons_zero, List.set_cons_succ]) | (refine wpP_skip rfl (by rfl) ?_; simp only [Act.put, List.setIfInBounds_toArray, List.set_cons_zero, List.set_cons_succ])
        first | (refine wpP_quiet (v := ?_) rfl (by rfl) ?_ ?_; rotate_left; (· (intro w' hw'; go_simp; try with_reducible rfl)); simp only [Act.put, List.setIfInBounds_toArray, List.set_cons_zero, List.set_cons_succ]) | (refine wpP_skip rfl (by rfl) ?_; simp only [Act.put, List.setIfInBounds_toArray, List.set_cons_zero, List.set_cons_succ])
        first | (refine wpP_quiet (v := ?_) rfl (by rfl) ?_ ?_; rotate_left; (· (intro w' hw'; go_simp; try with_reducible rfl)); simp only [Act.put, List.setIfInBounds_toArray, List.set_cons_zero, List.set_cons_succ]) | (refine wpP_skip rfl (by rfl) ?_; simp only [Act.put, List.setIfInBounds_toArray, List.set_cons_zero, List.set_cons_succ])
        first | (refine wpP_quiet (v := ?_) rfl (by rfl) ?_ ?_; rotate_left; (· (intro w' hw'; go_simp; try with_reducible rfl)); simp only [Act.put, List.setIfInBounds_toArray, List.set_cons_zero, List.set_cons_succ]) | (refine wpP_skip rfl (by rfl) ?_; simp only [Act.put, List.setIfInBounds_toArray, List.set_cons_zero, List.set_cons_succ])
        first | (refine wpP_quiet (v := ?_) rfl (by rfl) ?_ ?_; rotate_left; (· (intro w' hw'; go_simp; try with_reducible rfl)); simp only [Act.put, List.setIfInBounds_toArray, List.set_cons_zero, List.set_cons_succ]) | (refine wpP_skip rfl (by rfl) ?_; simp only [Act.put, List.setIfInBounds_toArray, List.set_cons_zero, List.set_cons_succ])
        refine wpP_one ?_
        refine wpP_loud rfl (by rfl) ?_
        intro K hK
        go_simp
        refine hK.out _ _ (RBut.refl_ _ _) ?_
        clear hK K
        try simp only [Act.put, List.setIfInBounds_toArray, List.set_cons_zero, List.set_cons_succ]
        first | (refine wpP_quiet (v := ?_) rfl (by rfl) ?_ ?_; rotate_left; (· (intro w' hw'; go_simp; try with_reducible rfl)); simp only [Act.put, List.setIfInBounds_toArray, List.set_cons_zero, List.set_cons_succ]) | (refine wpP_skip rfl (by rfl) ?_; simp only [Act.put, List.setIfInBounds_toArray, List.set_cons_zero, List.set_cons_succ])
        first | (refine wpP_quiet (v := ?_) rfl (by rfl) ?_ ?_; rotate_left; (· (intro w' hw'; go_simp; try with_reducible rfl)); simp only [Act.put, List.setIfInBounds_toArray, List.set_cons_zero, List.set_cons_succ]) | (refine wpP_skip rfl (by rfl) ?_; simp only [Act.put, List.setIfInBounds_toArray, List.set_cons_zero, List.set_cons_succ])
        refine wpP_one ?_
        refine wpP_loud rfl (by rfl) ?_
        intro K hK
        go_simp
        refine hK.out _ _ (RBut.setC _ _ _ _) ?_
        clear hK K
        try simp only [Act.put, List.setIfInBounds_toArray, List.set_cons_zero, List.set_cons_succ]
        refine wpP_done ?_
        have bp3 : Blk (V2.setCell ⟨P, 34 + b, none⟩ (.int .i64 (z + 100))) P 30 (coC vt (.slice (some ⟨CB, 0, none⟩) 1 cc) { c with bank := c.bank.set b (z + 100) }) := co_store bpv (by rw [coC_len hp hb]; omega) (put_bank hp hb b hb8 _)
        have u3 : RBut (some P) V2 (V2.setCell ⟨P, 34 + b, none⟩ (.int .i64 (z + 100))) := RBut.setC _ _ _ _
        have bc3 := bcv.but u3 (by intro e; injection e with e; exact HNE.out e.symm)
        generalize V2.setCell ⟨P, 34 + b, none⟩ (.int .i64 (z + 100)) = V3 at *
        go_wp2_with fail
        refine bodyPost_end (results_none rfl _ _ _) rfl ?_
        refine ⟨rfl, ⟨u3.os.trans fv.os, u3.tape.trans fv.tape, u3.output.trans fv.output, Nat.le_trans fv.size u3.size, fun k hk h1 h2 => (u3.block k (Nat.lt_of_lt_of_le hk fv.size) (by intro e; injection e with e; exact h1 e)).trans (fv.block k hk h1 h2)⟩, ?_⟩
        exact ⟨fun _ => ⟨by rw [HZ.out]; exact bp3, bc3⟩, fun h => absurd ⟨hst, by omega⟩ h⟩
  · have t0 : (x.st == 1) = false := by simpa using hst
    have t2 : (x.st != 1) = true := by simpa using hst
    go_enter Try.func34, Try.ntmps34
    go_wp2_with fail
    go_loopw [5] (fun k wr => k = .int .i64 0 ∧ wr = w) (fun _ _ => 0)
    case atStart => exact ⟨rfl, rfl⟩
    case round =>
      obtain ⟨rfl, rfl⟩ := hrel
      go_wp2_with fail
      refine wp_region_P (.take 0 (.take 1 (.take 2 (.take 3 (.take 4 (.take 5 (.take 6 (.take 7 (.take 8 (.take 9 (.take 10 (.take 11 (.take 12 (.take 13 (.take 14 (.take 15 (.take 16 .done))))))))))))))))) ((fun a b => a = b)) (by kernel_rfl) (by kernel_rfl) (by kernel_rfl) (by decide +kernel) (fun _ => rfl) (fun _ _ _ h k => h.trans k) (by intro d v c a w h; first | (cases d <;> exact h) | exact absurd h.1 (by simp)) ?_
      have d36 : wr.drew.cell? ⟨CB, 36, none⟩ = some (.slice As 0 cs) := k36
      have d3 : wr.drew.cell? ⟨CB, 3, none⟩ = some (.int .i64 x.st) := k3
      have d2 : wr.drew.cell? ⟨CB, 2, none⟩ = some (.int .i64 x.at_) := k2
      have d0 : wr.drew.cell? ⟨P, 0, none⟩ = some (.int .i64 c.now) := k0
      have bpd : Blk wr.drew P 30 (coC vt (.slice (some ⟨CB, 0, none⟩) 1 cc) c) := bp
      have bcd : Blk wr.drew CB 39 (clF (.slice As 0 cs, x) ++ rest) := bc
      have fd : Ex2 P CB wr wr.drew := ⟨rfl, rfl, rfl, Nat.le_refl _, fun _ _ _ _ => rfl⟩
      clear k36 k3 k2 k0 k42 bp bc
      generalize wr.drew = V0 at *
      first | (refine wpP_quiet (v := ?_) rfl (by rfl) ?_ ?_; rotate_left; (· (intro w' hw'; subst hw'; go_simp; try with_reducible rfl)); simp only [Act.put, List.setIfInBounds_toArray, List.set_cons_zero, List.set_cons_succ]) | (refine wpP_skip rfl (by rfl) ?_; simp only [Act.put, List.setIfInBounds_toArray, List.set_cons_zero, List.set_cons_succ])
      first | (refine wpP_quiet (v := ?_) rfl (by rfl) ?_ ?_; rotate_left; (· (intro w' hw'; subst hw'; go_simp; try with_reducible rfl)); simp only [Act.put, List.setIfInBounds_toArray, List.set_cons_zero, List.set_cons_succ]) | (refine wpP_skip rfl (by rfl) ?_; simp only [Act.put, List.setIfInBounds_toArray, List.set_cons_zero, List.set_cons_succ])
      first | (refine wpP_quiet (v := ?_) rfl (by rfl) ?_ ?_; rotate_left; (· (intro w' hw'; subst hw'; go_simp; try with_reducible rfl)); simp only [Act.put, List.setIfInBounds_toArray, List.set_cons_zero, List.set_cons_succ]) | (refine wpP_skip rfl (by rfl) ?_; simp only [Act.put, List.setIfInBounds_toArray, List.set_cons_zero, List.set_cons_succ])
      first | (refine wpP_quiet (v := ?_) rfl (by rfl) ?_ ?_; rotate_left; (· (intro w' hw'; subst hw'; go_simp; try with_reducible rfl)); simp only [Act.put, List.setIfInBounds_toArray, List.set_cons_zero, List.set_cons_succ]) | (refine wpP_skip rfl (by rfl) ?_; simp only [Act.put, List.setIfInBounds_toArray, List.set_cons_zero, List.set_cons_succ])
      first | (refine wpP_quiet (v := ?_) rfl (by rfl) ?_ ?_; rotate_left; (· (intro w' hw'; subst hw'; go_simp; try with_reducible rfl)); simp only [Act.put, List.setIfInBounds_toArray, List.set_cons_zero, List.set_cons_succ]) | (refine wpP_skip rfl (by rfl) ?_; simp only [Act.put, List.setIfInBounds_toArray, List.set_cons_zero, List.set_cons_succ])
      first | (refine wpP_quiet (v := ?_) rfl (by rfl) ?_ ?_; rotate_left; (· (intro w' hw'; subst hw'; go_simp; try with_reducible rfl)); simp only [Act.put, List.setIfInBounds_toArray, List.set_cons_zero, List.set_cons_succ]) | (refine wpP_skip rfl (by rfl) ?_; simp only [Act.put, List.setIfInBounds_toArray, List.set_cons_zero, List.set_cons_succ])
      first | (refine wpP_quiet (v := ?_) rfl (by rfl) ?_ ?_; rotate_left; (· (intro w' hw'; subst hw'; go_simp; try with_reducible rfl)); simp only [Act.put, List.setIfInBounds_toArray, List.set_cons_zero, List.set_cons_succ]) | (refine wpP_skip rfl (by rfl) ?_; simp only [Act.put, List.setIfInBounds_toArray, List.set_cons_zero, List.set_cons_succ])
      first | (refine wpP_quiet (v := ?_) rfl (by rfl) ?_ ?_; rotate_left; (· (intro w' hw'; subst hw'; go_simp; try with_reducible rfl)); simp only [Act.put, List.setIfInBounds_toArray, List.set_cons_zero, List.set_cons_succ]) | (refine wpP_skip rfl (by rfl) ?_; simp only [Act.put, List.setIfInBounds_toArray, List.set_cons_zero, List.set_cons_succ])
      first | (refine wpP_quiet (v := ?_) rfl (by rfl) ?_ ?_; rotate_left; (· (intro w' hw'; subst hw'; go_simp; try with_reducible rfl)); simp only [Act.put, List.setIfInBounds_toArray, List.set_cons_zero, List.set_cons_succ]) | (refine wpP_skip rfl (by rfl) ?_; simp only [Act.put, List.setIfInBounds_toArray, List.set_cons_zero, List.set_cons_succ])
      first | (refine wpP_quiet (v := ?_) rfl (by rfl) ?_ ?_; rotate_left; (· (intro w' hw'; subst hw'; go_simp; try with_reducible rfl)); simp only [Act.put, List.setIfInBounds_toArray, List.set_cons_zero, List.set_cons_succ]) | (refine wpP_skip rfl (by rfl) ?_; simp only [Act.put, List.setIfInBounds_toArray, List.set_cons_zero, List.set_cons_succ])
      first | (refine wpP_quiet (v := ?_) rfl (by rfl) ?_ ?_; rotate_left; (· (intro w' hw'; subst hw'; go_simp; try with_reducible rfl)); simp only [Act.put, List.setIfInBounds_toArray, List.set_cons_zero, List.set_cons_succ]) | (refine wpP_skip rfl (by rfl) ?_; simp only [Act.put, List.setIfInBounds_toArray, List.set_cons_zero, List.set_cons_succ])
      first | (refine wpP_quiet (v := ?_) rfl (by rfl) ?_ ?_; rotate_left; (· (intro w' hw'; subst hw'; go_simp; try with_reducible rfl)); simp only [Act.put, List.setIfInBounds_toArray, List.set_cons_zero, List.set_cons_succ]) | (refine wpP_skip rfl (by rfl) ?_; simp only [Act.put, List.setIfInBounds_toArray, List.set_cons_zero, List.set_cons_succ])
      first | (refine wpP_quiet (v := ?_) rfl (by rfl) ?_ ?_; rotate_left; (· (intro w' hw'; subst hw'; go_simp; try with_reducible rfl)); simp only [Act.put, List.setIfInBounds_toArray, List.set_cons_zero, List.set_cons_succ]) | (refine wpP_skip rfl (by rfl) ?_; simp only [Act.put, List.setIfInBounds_toArray, List.set_cons_zero, List.set_cons_succ])
      first | (refine wpP_quiet (v := ?_) rfl (by rfl) ?_ ?_; rotate_left; (· (intro w' hw'; subst hw'; go_simp; try with_reducible rfl)); simp only [Act.put, List.setIfInBounds_toArray, List.set_cons_zero, List.set_cons_succ]) | (refine wpP_skip rfl (by rfl) ?_; simp only [Act.put, List.setIfInBounds_toArray, List.set_cons_zero, List.set_cons_succ])
      first | (refine wpP_quiet (v := ?_) rfl (by rfl) ?_ ?_; rotate_left; (· (intro w' hw'; subst hw'; go_simp; try with_reducible rfl)); simp only [Act.put, List.setIfInBounds_toArray, List.set_cons_zero, List.set_cons_succ]) | (refine wpP_skip rfl (by rfl) ?_; simp only [Act.put, List.setIfInBounds_toArray, List.set_cons_zero, List.set_cons_succ])
      first | (refine wpP_quiet (v := ?_) rfl (by rfl) ?_ ?_; rotate_left; (· (intro w' hw'; subst hw'; go_simp; try with_reducible rfl)); simp only [Act.put, List.setIfInBounds_toArray, List.set_cons_zero, List.set_cons_succ]) | (refine wpP_skip rfl (by rfl) ?_; simp only [Act.put, List.setIfInBounds_toArray, List.set_cons_zero, List.set_cons_succ])
      first | (refine wpP_quiet (v := ?_) rfl (by rfl) ?_ ?_; rotate_left; (· (intro w' hw'; subst hw'; go_simp; try with_reducible rfl)); simp only [Act.put, List.setIfInBounds_toArray, List.set_cons_zero, List.set_cons_succ]) | (refine wpP_skip rfl (by rfl) ?_; simp only [Act.put, List.setIfInBounds_toArray, List.set_cons_zero, List.set_cons_succ])
      refine wpP_done ?_
      go_wp2_with fail
      refine bodyPost_ret (results_none rfl _ _ _) rfl ?_
      refine ⟨rfl, fd, ?_⟩
      exact ⟨fun h => absurd h.1 hst, fun _ => ⟨bpd, bcd⟩⟩
end Go.Proofs.Ytdopgooglicaiaa
/- The walk of court.Next, of a court of one claim that nobody sued. -/
set_option linter.unusedSimpArgs false
set_option linter.unusedVariables false
namespace Go.Proofs.Ytdopgooglicaiaa
open Go.RowKit
set_option maxRecDepth 100000
theorem Ex2.blk {p q b : Nat} {w w' : World} {t : TypeId} {cs : List Value} (h : Ex2 p q w w') (k : Blk w b t cs) (h1 : b ≠ p) (h2 : b ≠ q) : Blk w' b t cs := (h.block b k.lt h1 h2).trans k
theorem Ex2.below {p q B : Nat} {w w' : World} (h : Ex2 p q w w') (h1 : B ≤ p) (h2 : B ≤ q) (h3 : B ≤ w.heap.size) : Below B w w' := ⟨h.os, h.tape, h.output, h.size, fun k hk => h.block k (by omega) (by omega) (by omega)⟩
/-- a court of one claim that nobody sued, so many blocks later -/
def next0 (c : CO) (x : CL) (b : Nat) (n : Int) : CO :=
  if x.st = 1 ∧ 3 < c.now + n - x.at_ then { c with now := c.now + n, bank := c.bank.set b (c.bank.getD b 0 + 100), claims := [{ x with st := 2 }] } else { c with now := c.now + n, claims := [x] }
set_option maxRecDepth 100000 in
set_option maxHeartbeats 4000000 in
theorem next0_any (v : Value) (c : CO) (hc : c.ok) (x : CL) (hcl : c.claims = [x]) (hsu : x.suits = []) (n : Int) (hn : 0 ≤ n ∧ n ≤ 50) (hnow : 0 ≤ c.now ∧ c.now ≤ 1000) (hat : 0 ≤ x.at_ ∧ x.at_ ≤ 1000) (b : Nat) (hb8 : b < 8) (hby : x.by_ = (b : Int))
    (hbk : 0 ≤ c.bank.getD b 0 ∧ c.bank.getD b 0 ≤ 1000000) (w : World) (h : CoX [] w v c) : Calls Try.prog 14 #[v, .int .i64 n] w (RCe w (next0 c x b n) 0) := by
  obtain ⟨vt, vc, rfl, hx⟩ := h
  have hX : CoX [] w (.agg (coC vt vc c).toArray) c := ⟨vt, vc, rfl, hx⟩
  obtain ⟨W, HW, hbw, bp, bz⟩ := box_co w vt vc c
  have HC := Lib.hid hc
  have HPR := Lib.hid (And.intro hc.pre hc.bank)
  have ICO := Lib.hid (info_co (vt := vt) (vc := vc) hc.pre hc.bank)
  have HXO : Hid x.ok := Lib.hid (hc.claims x (by rw [hcl]; simp))
  have HSU := Lib.hid hsu
  have HCL := Lib.hid hcl
  have hWz := bz.lt
  have hXW := hX.to hbw
  have HTL : Hid ((H8 c.txs).length = c.txs.length * 32) := (show _ = _ by rw [H8_len _ hc.txs, Nat.mul_comm])
  clear hc hx hX hsu hcl
  go_enter Try.func14, Try.ntmps14
  go_upto_region 1 with fail
  refine wp_at HW.out ?_
  clear HW
  go_wp2_with (first
    | (refine wpl_load_fld (by rfl) _ _ rfl w.heap.size 0 rfl (coC vt vc c) _ bp.range Try.underlying30 rfl ICO.out ?_))
  refine (ownC_any _ c HC.out W hXW).mono ?_
  rintro e w1 ⟨T, vc1, rfl, hT, bT, hcl, hb1⟩
  obtain ⟨A, nC, cC, l, rfl, ow, hml, hln, hsl⟩ := hcl
  rw [HCL.out] at hml
  obtain ⟨vs, rfl⟩ : ∃ vs, l = [(vs, x)] := by
    match l, hml with
    | [p], h =>
      simp at h
      exact ⟨p.1, by rw [← h]⟩
  obtain rfl : nC = 1 := by simpa using hln.symm
  obtain ⟨As, ns, cs, ls, hve, _, hls, hlns, _⟩ := hsl (vs, x) (by simp)
  obtain rfl : ns = 0 := by
    rw [← hlns, ← List.length_map (f := (·.2)), hls, HSU.out]
    rfl
  simp only [] at hve
  subst hve
  have hleC := ow.le
  obtain ⟨CB, rest, rfl, hCB, bk, hrl⟩ := own_row ow (by omega)
  rw [rows_one] at bk hrl
  have HRL := Lib.hid hrl
  have bp1 := bp.to hb1
  have bz1 := bz.to hb1
  have f1 := hbw.trans (hb1.mono hbw.size)
  have IC1 := Lib.hid (info_co (vt := .slice (some ⟨T, 0, none⟩) c.txs.length c.txs.length) (vc := .slice (some ⟨CB, 0, none⟩) 1 cC) HPR.out.1 HPR.out.2)
  have HLC := Lib.hid hleC
  clear bp bz hb1 hbw hXW ICO hml hln hsl ow hls hlns hleC hrl
  go_upto_region 2 with (first
    | (refine wpl_store_fld (by rfl) _ _ _ rfl w.heap.size 0 _ _ (coC (.slice (some ⟨T, 0, none⟩) c.txs.length c.txs.length) (.slice (some ⟨CB, 0, none⟩) 1 cC) c) rfl _ rfl rfl bp1 (by rw [coC_len HPR.out.1 HPR.out.2, coC_len HPR.out.1 HPR.out.2]; exact Nat.le_refl _) IC1.out (coC_one rfl rfl) ?_
       intro w2 bp2 bu2
       rw [put_all _ _ (by rw [coC_len HPR.out.1 HPR.out.2, coC_len HPR.out.1 HPR.out.2])] at bp2))
  have k0 : w2.cell? ⟨w.heap.size, 0, none⟩ = some (.int .i64 c.now) := by rw [bp2.cell]; exact co_now
  have k42 : w2.cell? ⟨w.heap.size, 42, none⟩ = some (.slice (some ⟨CB, 0, none⟩) 1 cC) := by rw [bp2.cell]; exact co_claims HPR.out.1 HPR.out.2
  have fz0 := bp2.fz 0
  have bT2 := bT.but bu2 (by intro e; injection e; omega)
  have bz2 := bz1.but bu2 (by intro e; injection e; omega)
  have bk2 := bk.but bu2 (by intro e; injection e; omega)
  have f2 := f1.trans (below_but bu2 (Nat.le_refl _) f1.size)
  clear bT bu2 bz1 f1 bp1 bk
  go_wp2_with fail
  obtain ⟨c1, hc1⟩ : ∃ c1 : CO, { c with now := c.now + n } = c1 := ⟨_, rfl⟩
  have bp3 : Blk (w2.setCell ⟨w.heap.size, 0, none⟩ (.int .i64 (c.now + n))) w.heap.size 30 (coC (.slice (some ⟨T, 0, none⟩) c.txs.length c.txs.length) (.slice (some ⟨CB, 0, none⟩) 1 cC) c1) := co_store bp2 (by rw [coC_len HPR.out.1 HPR.out.2]; omega) (by rw [put_now, hc1])
  have u3 : RBut (some w.heap.size) w2 (w2.setCell ⟨w.heap.size, 0, none⟩ (.int .i64 (c.now + n))) := RBut.setC _ _ _ _
  have HC1 := Lib.hid hc1
  have e1 : c1.pre = c.pre ∧ c1.bank = c.bank ∧ c1.now = c.now + n ∧ c1.txs = c.txs := by rw [← hc1]; exact ⟨rfl, rfl, rfl, rfl⟩
  have HE1 := Lib.hid e1
  clear hc1 e1
  generalize w2.setCell ⟨w.heap.size, 0, none⟩ (.int .i64 (c.now + n)) = w3 at *
  have bT3 := bT2.but u3 (by intro e; injection e; omega)
  have bz3 := bz2.but u3 (by intro e; injection e; omega)
  have bk3 := bk2.but u3 (by intro e; injection e; omega)
  have f3 := f2.trans (below_but u3 (Nat.le_refl _) f2.size)
  clear bT2 bz2 bk2 f2 bp2 u3 k0 k42 fz0
  go_loopw [32] (fun k wr => (k = .int .i64 0 ∧ wr = w3) ∨ (k = .int .i64 1 ∧ Ex2 w.heap.size CB w3 wr ∧ Exp0 w.heap.size CB (.slice (some ⟨T, 0, none⟩) c.txs.length c.txs.length) c1 x As cs cC rest b wr)) (fun k _ => 1 - (intOf k).toNat)
  case atStart => exact .inl ⟨rfl, rfl⟩
  case round =>
    rcases hrel with ⟨rfl, rfl⟩ | ⟨rfl, hex, hep⟩
    · go_wp2_with fail
      refine (expire0_any w.heap.size CB _ c1 x (by rw [HE1.out.1]; exact HPR.out.1) (by rw [HE1.out.2.1]; exact HPR.out.2) HXO.out.root As cs cC rest wr bp3 bk3 (by omega) b hb8 hby (by rw [HE1.out.2.2.1]; omega) (by omega) (by rw [HE1.out.2.1]; exact hbk)).mono ?_
      rintro e wr2 ⟨rfl, hex, hep⟩
      go_wp2_with fail
      go_roundw
      case rel => exact .inr ⟨rfl, hex, hep⟩
      case measure => simp [intOf]
    · clear bp3 bk3
      have bT4 := hex.blk bT3 (by omega) (by omega)
      have bz4 := hex.blk bz3 (by omega) (by omega)
      have f4 := f3.trans (hex.below (by omega) (by omega) f3.size)
      obtain ⟨c2, x2, hp2, hk2, hres, hpr, hbl, htx, hx2, hsu2⟩ : ∃ (c2 : CO) (x2 : CL), Blk wr w.heap.size 30 (coC (.slice (some ⟨T, 0, none⟩) c.txs.length c.txs.length) (.slice (some ⟨CB, 0, none⟩) 1 cC) c2) ∧ Blk wr CB 39 (clF (.slice As 0 cs, x2) ++ rest) ∧
          next0 c x b n = { c2 with claims := [x2] } ∧ c2.pre.length = 32 ∧ c2.bank.length = 8 ∧ c2.txs = c.txs ∧ x2.root.length = 32 ∧ x2.suits = [] := by
        by_cases hcd : x.st = 1 ∧ 3 < c1.now - x.at_
        · obtain ⟨h1, h2⟩ := hep.1 hcd
          refine ⟨_, _, h1, h2, ?_, by show c1.pre.length = 32; rw [HE1.out.1]; exact HPR.out.1, by show (c1.bank.set _ _).length = 8; rw [List.length_set, HE1.out.2.1]; exact HPR.out.2, HE1.out.2.2.2, HXO.out.root, HSU.out⟩
          rw [HE1.out.2.2.1] at hcd
          unfold next0
          rw [if_pos hcd, ← HC1.out]
        · obtain ⟨h1, h2⟩ := hep.2 hcd
          refine ⟨_, _, h1, h2, ?_, by rw [HE1.out.1]; exact HPR.out.1, by rw [HE1.out.2.1]; exact HPR.out.2, HE1.out.2.2.2, HXO.out.root, HSU.out⟩
          rw [HE1.out.2.2.1] at hcd
          unfold next0
          rw [if_neg hcd, ← HC1.out]
      clear hep hex
      have hbb : CO.ok { c2 with claims := [x2] } := ⟨hpr, by show ∀ y ∈ c2.txs, _; rw [htx]; exact HC.out.txs, by show c2.txs.length ≤ _; rw [htx]; exact HC.out.n, hbl, fun y hy => by
        rw [List.mem_singleton.1 hy]
        exact ⟨hx2, (by rw [hsu2]; intro _ h; cases h), (by rw [hsu2]; exact Nat.zero_le _)⟩, by simp⟩
      have slC : Sl wr 37 (some ⟨CB, 0, none⟩) 1 (rows clF [((.slice As 0 cs : Value), x2)]) := by
        have hl2 : (rows clF [((.slice As 0 cs : Value), x2)] ++ rest).length = cC * 37 := by
          have h1 := HRL.out
          rw [List.length_append, clF_len HXO.out.root] at h1
          rw [rows_one, List.length_append, clF_len hx2]
          exact h1
        exact (own_from (B := 0) (n := 1) (by rw [rows_one]; exact hk2) (by rw [rows_one, clF_len hx2]) hl2 (Nat.zero_le _) HLC.out.1 HLC.out.2).sl
      have hX4 : CoX [] wr (.agg (coC (.slice (some ⟨T, 0, none⟩) c.txs.length c.txs.length) (.slice (some ⟨CB, 0, none⟩) 1 cC) c2).toArray) { c2 with claims := [x2] } :=
        ⟨_, _, rfl, ⟨_, _, _, rfl, by rw [htx]; exact bT4.sl HTL.out, by rw [htx], Nat.le_refl _, fun _ _ h => by cases h⟩, some ⟨CB, 0, none⟩, 1, cC, [(.slice As 0 cs, x2)], rfl, slC, rfl, rfl, HLC.out.1, fun _ _ h => (by cases h), fun p hp => by
          rw [List.mem_singleton.1 hp]
          exact ⟨As, 0, cs, [], rfl, ⟨rfl, fun h => absurd h (by omega)⟩, hsu2.symm, rfl, Nat.zero_le _, fun _ _ h => (by cases h), fun _ h => by cases h⟩⟩
      have HX4 := Lib.hid hX4
      have HBB := Lib.hid hbb
      have HRES := Lib.hid hres
      have HB2 := Lib.hid (And.intro hpr hbl)
      have IC2 := Lib.hid (info_co (vt := .slice (some ⟨T, 0, none⟩) c.txs.length c.txs.length) (vc := .slice (some ⟨CB, 0, none⟩) 1 cC) hpr hbl)
      clear hX4 slC hbb hres hpr hbl htx hx2 hsu2 hk2 bT3 bz3 f3 bT4
      go_wp2_with (first
        | (refine wpl_load_fld (by rfl) _ _ rfl w.heap.size 0 rfl (coC (.slice (some ⟨T, 0, none⟩) c.txs.length c.txs.length) (.slice (some ⟨CB, 0, none⟩) 1 cC) c2) _ hp2.range Try.underlying30 rfl IC2.out ?_))
      refine (ownC_any _ _ HBB.out wr HX4.out).mono ?_
      intro e w6 hro
      obtain ⟨vt6, vc6, rfl, o6t, o6c, hb6, hfin⟩ := hro.xt HBB.out
      have hz4 := bz4.lt
      have hf4 := f4.size
      have bz6 := bz4.to hb6
      have f6 := f4.trans (hb6.mono f4.size)
      have IC6 := Lib.hid (info_co (vt := vt6) (vc := vc6) (c := { c2 with claims := [x2] }) HB2.out.1 HB2.out.2)
      have HL6 : Hid ((coC vt6 vc6 { c2 with claims := [x2] }).length = 43) := Lib.hid (coC_len (c := { c2 with claims := [x2] }) HB2.out.1 HB2.out.2)
      clear hro bz4 f4 HX4
      go_wp2_with (first
        | (refine wpl_store_fld (by rfl) _ _ _ rfl (w.heap.size + 1) 0 _ _ (coC vt6 vc6 { c2 with claims := [x2] }) rfl _ rfl rfl bz6 (by rw [HL6.out]; exact Nat.le_refl _) IC6.out (coC_one o6t o6c) ?_
           intro w7 bz7 bu7
           rw [put_all _ _ (by rw [HL6.out]; rfl)] at bz7))
      refine bodyPost_ret (results_blk2 Try.results14 rfl rfl bz7 Try.underlying30 rfl IC6.out) rfl ?_
      refine ⟨_, rfl, ?_, f6.trans (below_but bu7 (by omega) f6.size)⟩
      rw [HRES.out]
      exact fun S hS => hfin (w.heap.size + 1) w7 hz4 bu7 S (fun b hb => by have := hS b hb; omega)
end Go.Proofs.Ytdopgooglicaiaa
/- A court of one claim, laid in a block of its own, over an own copy: what its fields' stores make of it. -/
set_option linter.unusedSimpArgs false
set_option linter.unusedVariables false
namespace Go.Proofs.Ytdopgooglicaiaa
open Go.RowKit
set_option maxRecDepth 100000
structure OneO (w : World) (P T CB cC : Nat) (rest : List Value) (vs : Value) (c : CO) (x : CL) : Prop where
  cl : c.claims = [x]
  ok : c.ok
  bp : Blk w P 30 (coC (.slice (some ⟨T, 0, none⟩) c.txs.length c.txs.length) (.slice (some ⟨CB, 0, none⟩) 1 cC) c)
  bt : Blk w T 25 (H8 c.txs)
  bc : Blk w CB 39 (clF (vs, x) ++ rest)
  rl : 37 + rest.length = cC * 37
  c1 : 1 ≤ cC
  c2 : cC ≤ maxLen
  su : SuO w (CB + 1) vs x.suits
  pt : P < T
  tc : T < CB
/-- all blocks below B but p are as they were -/
structure FrP (p B : Nat) (w w' : World) : Prop where
  os : w'.os = w.os
  tape : w'.tape = w.tape
  output : w'.output = w.output
  size : w.heap.size ≤ w'.heap.size
  block : ∀ k, k < B → k ≠ p → w'.heap[k]? = w.heap[k]?
section
variable {w w' : World} {p P T B CB cC : Nat} {rest : List Value} {vs : Value} {c : CO} {x : CL}
theorem FrP.refl_ : FrP p B w w := ⟨rfl, rfl, rfl, Nat.le_refl _, fun _ _ _ => rfl⟩
theorem FrP.trans_ {w'' : World} (h : FrP p B w w') (k : FrP p B w' w'') : FrP p B w w'' := ⟨k.os.trans h.os, k.tape.trans h.tape, k.output.trans h.output, Nat.le_trans h.size k.size, fun q h1 h2 => (k.block q h1 h2).trans (h.block q h1 h2)⟩
theorem FrP.but {q : Nat} (h : RBut (some q) w w') (hq : q = p ∨ B ≤ q) (hB : B ≤ w.heap.size) : FrP p B w w' := ⟨h.os, h.tape, h.output, h.size, fun k h1 h2 => h.block k (by omega) (by intro e; injection e with e; omega)⟩
theorem FrP.of (h : Below w.heap.size w w') (hB : B ≤ w.heap.size) : FrP p B w w' := ⟨h.os, h.tape, h.output, h.size, fun k h1 _ => h.block k (by omega)⟩
theorem FrP.blk {b : Nat} {t : TypeId} {cs : List Value} (h : FrP p B w w') (k : Blk w b t cs) (h1 : b ≠ p) (h2 : b < B) : Blk w' b t cs := (h.block b h2 h1).trans k
theorem FrP.below {D : Nat} (h : FrP p B w w') (h1 : D ≤ p) (h2 : D ≤ B) : Below D w w' := ⟨h.os, h.tape, h.output, h.size, fun k hk => h.block k (by omega) (by omega)⟩
theorem FrP.mono {D : Nat} (h : FrP p B w w') (h2 : D ≤ B) : FrP p D w w' := ⟨h.os, h.tape, h.output, h.size, fun k hk h1 => h.block k (by omega) h1⟩
variable (h : OneO w P T CB cC rest vs c x)
include h
theorem OneO.xok : x.ok := h.ok.claims x (by rw [h.cl]; exact List.mem_singleton.2 rfl)
theorem OneO.lt : CB < w.heap.size := h.bc.lt
theorem OneO.to (hb : Below w.heap.size w w') : OneO w' P T CB cC rest vs c x := ⟨h.cl, h.ok, h.bp.to hb, h.bt.to hb, h.bc.to hb, h.rl, h.c1, h.c2, h.su.to hb, h.pt, h.tc⟩
theorem OneO.drew : OneO w.drew P T CB cC rest vs c x := h.to (Below.refl _ _).drew
theorem OneO.but {q : Nat} (hr : RBut (some q) w w') (hq : q ≠ P) (hT : q < T) : OneO w' P T CB cC rest vs c x :=
  ⟨h.cl, h.ok, h.bp.but hr (by intro e; injection e with e; exact hq e.symm), h.bt.but hr (by intro e; injection e with e; omega), h.bc.but hr (by intro e; injection e with e; have := h.tc; omega), h.rl, h.c1, h.c2, h.su.but hr (by have := h.tc; omega), h.pt, h.tc⟩
/-- what lies behind the own copy may be stored to -/
theorem OneO.k0 : w.cell? ⟨P, 0, none⟩ = some (.int .i64 c.now) := by rw [h.bp.cell]; exact co_now
theorem OneO.k33 : w.cell? ⟨P, 33, none⟩ = some (.slice (some ⟨T, 0, none⟩) c.txs.length c.txs.length) := by rw [h.bp.cell]; exact co_txs h.ok.pre
theorem OneO.k42 : w.cell? ⟨P, 42, none⟩ = some (.slice (some ⟨CB, 0, none⟩) 1 cC) := by rw [h.bp.cell]; exact co_claims h.ok.pre h.ok.bank
theorem OneO.kb (b : Nat) (hb : b < 8) : w.cell? ⟨P, 34 + b, none⟩ = some (.int .i64 (c.bank.getD b 0)) := by rw [h.bp.cell]; exact co_bank h.ok.pre h.ok.bank b hb
theorem OneO.rpre : w.rangeAt P 1 (B8 c.pre) := h.bp.sub 1 (B8 c.pre) (co_pre h.ok.pre)
theorem OneO.cell (j : Nat) (hj : j < 37) : w.cell? ⟨CB, j, none⟩ = (clF (vs, x))[j]? := by rw [h.bc.cell, List.getElem?_append_left (by rw [clF_len h.xok.root]; exact hj)]
theorem OneO.cby : w.cell? ⟨CB, 0, none⟩ = some (.int .i64 x.by_) := by rw [h.cell 0 (by decide)]; exact cl_by
theorem OneO.cn : w.cell? ⟨CB, 1, none⟩ = some (.int .i64 x.n) := by rw [h.cell 1 (by decide)]; exact cl_n
theorem OneO.cat : w.cell? ⟨CB, 2, none⟩ = some (.int .i64 x.at_) := by rw [h.cell 2 (by decide)]; exact cl_at
theorem OneO.cst : w.cell? ⟨CB, 3, none⟩ = some (.int .i64 x.st) := by rw [h.cell 3 (by decide)]; exact cl_st
theorem OneO.cv : w.cell? ⟨CB, 36, none⟩ = some vs := by rw [h.cell 36 (by decide)]; exact cl_suits h.xok.root
theorem OneO.croot : w.rangeAt CB 4 (B8 x.root) := h.bc.sub 4 (B8 x.root) (by
  have := cl_root (v := vs) (x := x)
  rw [List.drop_append_of_le_length (by rw [clF_len h.xok.root]; decide), List.take_append_of_le_length (by rw [List.length_drop, clF_len h.xok.root, B8_len, h.xok.root]; decide)]
  exact this)
theorem OneO.clen : (coC (.slice (some ⟨T, 0, none⟩) c.txs.length c.txs.length) (.slice (some ⟨CB, 0, none⟩) 1 cC) c).length = 43 := coC_len h.ok.pre h.ok.bank
theorem OneO.info : (Try.prog.info? 30).map (·.size) = some (coC (.slice (some ⟨T, 0, none⟩) c.txs.length c.txs.length) (.slice (some ⟨CB, 0, none⟩) 1 cC) c).length := info_co h.ok.pre h.ok.bank
/-- what an own copy is, read as a court -/
theorem OneO.cox {S : List Nat} (hS : ∀ b ∈ S, b < T) : CoX S w (.agg (coC (.slice (some ⟨T, 0, none⟩) c.txs.length c.txs.length) (.slice (some ⟨CB, 0, none⟩) 1 cC) c).toArray) c := by
  have hl : (H8 c.txs).length = c.txs.length * 32 := by rw [H8_len _ h.ok.txs, Nat.mul_comm]
  have htc := h.tc
  refine ⟨_, _, rfl, ⟨_, _, _, rfl, h.bt.sl hl, rfl, Nat.le_refl _, fun b hb hm => by have hb' : T = b := (by injection hb); have := hS b hm; omega⟩, ?_⟩
  rw [h.cl]
  have o : Own w 0 39 37 (some ⟨CB, 0, none⟩) 1 cC (rows clF [(vs, x)]) := own_from (n := 1) (by rw [rows_one]; exact h.bc) (by rw [rows_one, clF_len h.xok.root]) (by rw [rows_one, List.length_append, clF_len h.xok.root]; exact h.rl) (Nat.zero_le _) h.c1 h.c2
  refine ⟨some ⟨CB, 0, none⟩, 1, cC, [(vs, x)], rfl, o.sl, rfl, rfl, h.c1, fun b hb hm => by have hb' : CB = b := (by injection hb); have := hS b hm; omega, fun p hp => ?_⟩
  rw [List.mem_singleton.1 hp]
  exact h.su.x (fun b hb => by have := hS b hb; omega)
/-- a cell of the court is stored -/
theorem OneO.put_ {i : Nat} {u : Value} {c' : CO} (hi : i < 43) (hp : put_ (coC (.slice (some ⟨T, 0, none⟩) c.txs.length c.txs.length) (.slice (some ⟨CB, 0, none⟩) 1 cC) c) i [u] = coC (.slice (some ⟨T, 0, none⟩) c.txs.length c.txs.length) (.slice (some ⟨CB, 0, none⟩) 1 cC) c')
    (h1 : c'.claims = c.claims) (h2 : c'.txs = c.txs) (h3 : c'.ok) : OneO (w.setCell ⟨P, i, none⟩ u) P T CB cC rest vs c' x := by
  have hr : RBut (some P) w (w.setCell ⟨P, i, none⟩ u) := RBut.setC _ _ _ _
  have hpt := h.pt
  have htc := h.tc
  refine ⟨h1.trans h.cl, h3, ?_, ?_, h.bc.but hr (by intro e; injection e with e; omega), h.rl, h.c1, h.c2, h.su.but hr (by omega), h.pt, h.tc⟩
  · rw [h2]
    exact co_store h.bp (by rw [h.clen]; exact hi) hp
  · rw [h2]
    exact h.bt.but hr (by intro e; injection e with e; omega)
theorem OneO.bank (b : Nat) (hb : b < 8) (z : Int) : OneO (w.setCell ⟨P, 34 + b, none⟩ (.int .i64 z)) P T CB cC rest vs { c with bank := c.bank.set b z } x :=
  h.put_ (by omega) (put_bank h.ok.pre h.ok.bank b hb z) rfl rfl ⟨h.ok.pre, h.ok.txs, h.ok.n, by show (c.bank.set b z).length = 8; rw [List.length_set]; exact h.ok.bank, h.ok.claims, h.ok.m⟩
theorem OneO.now (z : Int) : OneO (w.setCell ⟨P, 0, none⟩ (.int .i64 z)) P T CB cC rest vs { c with now := z } x :=
  h.put_ (by omega) (put_now z) rfl rfl ⟨h.ok.pre, h.ok.txs, h.ok.n, h.ok.bank, h.ok.claims, h.ok.m⟩
theorem OneO.okx {y : CL} (hy : y.ok) : CO.ok { c with claims := [y] } := ⟨h.ok.pre, h.ok.txs, h.ok.n, h.ok.bank, fun z hz => by rw [List.mem_singleton.1 hz]; exact hy, by simp⟩
/-- a cell of the claim is stored -/
theorem OneO.putc {i : Nat} {u vs' : Value} {y : CL} (hi : i < 37) (hp : Go.Proofs.Ytdopgooglicaiaa.put_ (clF (vs, x)) i [u] = clF (vs', y)) (hy : y.ok) (hs : SuO (w.setCell ⟨CB, i, none⟩ u) (CB + 1) vs' y.suits) : OneO (w.setCell ⟨CB, i, none⟩ u) P T CB cC rest vs' { c with claims := [y] } y := by
  have hr : RBut (some CB) w (w.setCell ⟨CB, i, none⟩ u) := RBut.setC _ _ _ _
  have hpt := h.pt
  have htc := h.tc
  refine ⟨rfl, h.okx hy, h.bp.but hr (by intro e; injection e with e; omega), h.bt.but hr (by intro e; injection e with e; omega), co_store h.bc (by rw [List.length_append, clF_len h.xok.root]; omega) (by rw [put_front _ _ _ _ (by rw [clF_len h.xok.root]; simp; omega), hp]), h.rl, h.c1, h.c2, hs, h.pt, h.tc⟩
theorem OneO.st (z : Int) : OneO (w.setCell ⟨CB, 3, none⟩ (.int .i64 z)) P T CB cC rest vs { c with claims := [{ x with st := z }] } { x with st := z } :=
  h.putc (by omega) (put_st z) ⟨h.xok.root, h.xok.suits, h.xok.n⟩ (h.su.but (RBut.setC _ _ _ _) (Nat.lt_succ_self _))
end
/-- an own copy of a court of one claim, as it is handed back -/
theorem RCo.one {w w' : World} {c : CO} {en : Ending} {x : CL} (h : RCo w c en w') (hc : c.ok) (hx : c.claims = [x]) : ∃ T CB cC rest vs, en = .returned (.agg (coC (.slice (some ⟨T, 0, none⟩) c.txs.length c.txs.length) (.slice (some ⟨CB, 0, none⟩) 1 cC) c).toArray) ∧ w.heap.size ≤ T ∧ Below w.heap.size w w' ∧
    ∀ (P : Nat) (w'' : World), P < w.heap.size → RBut (some P) w' w'' → Blk w'' P 30 (coC (.slice (some ⟨T, 0, none⟩) c.txs.length c.txs.length) (.slice (some ⟨CB, 0, none⟩) 1 cC) c) → OneO w'' P T CB cC rest vs c x := by
  obtain ⟨T, vc1, rfl, hT, bT, hcl, hb1⟩ := h
  obtain ⟨A, nC, cC, l, rfl, ow, hml, hln, hsl⟩ := hcl
  rw [hx] at hml
  obtain ⟨vs, rfl⟩ : ∃ vs, l = [(vs, x)] := by
    match l, hml with
    | [p], h =>
      simp at h
      exact ⟨p.1, by rw [← h]⟩
  obtain rfl : nC = 1 := by simpa using hln.symm
  have hleC := ow.le
  obtain ⟨CB, rest, rfl, hCB, bk, hrl⟩ := own_row ow (by omega)
  rw [rows_one] at bk hrl
  have hxo : x.ok := hc.claims x (by rw [hx]; exact List.mem_singleton.2 rfl)
  refine ⟨T, CB, cC, rest, vs, rfl, hT, hb1, fun P w'' hP hr bP => ⟨hx, hc, bP, bT.but hr (by intro e; injection e with e; omega), bk.but hr (by intro e; injection e with e; omega), ?_, hleC.1, hleC.2, (hsl (vs, x) (by simp)).but hr ?_, by omega, by omega⟩⟩
  · rw [List.length_append, clF_len hxo.root] at hrl
    exact hrl
  · simp only [bnd]
    omega
end Go.Proofs.Ytdopgooglicaiaa
/- A court of one claim that was sued, in blocks of its own: what stores into it make of it. -/
set_option linter.unusedSimpArgs false
set_option linter.unusedVariables false
namespace Go.Proofs.Ytdopgooglicaiaa
open Go.RowKit
set_option maxRecDepth 100000
/-- all blocks but some are as they were -/
structure FrS (S : List Nat) (w w' : World) : Prop where
  os : w'.os = w.os
  tape : w'.tape = w.tape
  output : w'.output = w.output
  size : w.heap.size ≤ w'.heap.size
  block : ∀ k, k < w.heap.size → k ∉ S → w'.heap[k]? = w.heap[k]?
theorem FrS.refl_ {S : List Nat} {w : World} : FrS S w w := ⟨rfl, rfl, rfl, Nat.le_refl _, fun _ _ _ => rfl⟩
theorem FrS.trans_ {S : List Nat} {w w' w'' : World} (h : FrS S w w') (k : FrS S w' w'') : FrS S w w'' := ⟨k.os.trans h.os, k.tape.trans h.tape, k.output.trans h.output, Nat.le_trans h.size k.size, fun q h1 h2 => (k.block q (Nat.lt_of_lt_of_le h1 h.size) h2).trans (h.block q h1 h2)⟩
theorem FrS.of_but {S : List Nat} {w w' : World} {q : Nat} (h : RBut (some q) w w') (hq : q ∈ S) : FrS S w w' := ⟨h.os, h.tape, h.output, h.size, fun k h1 h2 => h.block k h1 (by intro e; injection e with e; exact h2 (e ▸ hq))⟩
theorem FrS.of_below {S : List Nat} {w w' : World} (h : Below w.heap.size w w') : FrS S w w' := ⟨h.os, h.tape, h.output, h.size, fun k h1 _ => h.block k h1⟩
theorem FrS.blk {S : List Nat} {w w' : World} {b : Nat} {t : TypeId} {cs : List Value} (h : FrS S w w') (k : Blk w b t cs) (h1 : b ∉ S) : Blk w' b t cs := (h.block b k.lt h1).trans k
theorem FrS.below {S : List Nat} {w w' : World} {D : Nat} (h : FrS S w w') (h1 : ∀ b ∈ S, D ≤ b) (h2 : D ≤ w.heap.size) : Below D w w' := ⟨h.os, h.tape, h.output, h.size, fun k hk => h.block k (by omega) (fun hm => by have := h1 k hm; omega)⟩
structure OneM (w : World) (P T CB SB cC cS : Nat) (rest srest : List Value) (l : List (Value × SU)) (c : CO) (x : CL) : Prop where
  cl : c.claims = [x]
  ok : c.ok
  bp : Blk w P 30 (coC (.slice (some ⟨T, 0, none⟩) c.txs.length c.txs.length) (.slice (some ⟨CB, 0, none⟩) 1 cC) c)
  bt : Blk w T 25 (H8 c.txs)
  bc : Blk w CB 39 (clF (.slice (some ⟨SB, 0, none⟩) l.length cS, x) ++ rest)
  bs : Blk w SB 44 (rows suF l ++ srest)
  rl : 37 + rest.length = cC * 37
  c1 : 1 ≤ cC
  c2 : cC ≤ maxLen
  sl : l.length * 106 + srest.length = cS * 106
  s1 : l.length ≤ cS
  s2 : cS ≤ maxLen
  ml : l.map (·.2) = x.suits
  hx : ∀ p ∈ l, HsX [P, CB, SB] w p.1 p.2.hs
  n1 : P ≠ T
  n2 : P ≠ CB
  n3 : P ≠ SB
  n4 : T ≠ CB
  n5 : T ≠ SB
  n6 : CB ≠ SB
section
variable {w w' : World} {P T CB SB cC cS : Nat} {rest srest : List Value} {l : List (Value × SU)} {c : CO} {x : CL}
/-- an own copy of a court whose claim was sued -/
theorem OneO.m {vs : Value} (h : OneO w P T CB cC rest vs c x) (hs : x.suits ≠ []) : ∃ SB cS srest l, vs = .slice (some ⟨SB, 0, none⟩) l.length cS ∧ CB < SB ∧ OneM w P T CB SB cC cS rest srest l c x := by
  obtain ⟨A, n, cS, l, rfl, ow, hml, hln, hh⟩ := h.su
  have hn : 0 < n := by
    rw [← hln, ← List.length_map (f := (·.2)), hml]
    exact List.length_pos_iff.2 hs
  have hle := ow.le
  have hlen := ow.len
  obtain ⟨SB, srest, rfl, hSB, bk, hrl⟩ := own_row ow hn
  subst hln
  have hpt := h.pt
  have htc := h.tc
  refine ⟨SB, cS, srest, l, rfl, by omega, h.cl, h.ok, h.bp, h.bt, h.bc, bk, h.rl, h.c1, h.c2, by rw [List.length_append, hlen] at hrl; exact hrl, hle.1, hle.2, hml, fun p hp => (hh p hp).x (fun b hb => ?_), by omega, by omega, by omega, by omega, by omega, by omega⟩
  simp only [bnd]
  simp at hb
  omega
variable (h : OneM w P T CB SB cC cS rest srest l c x)
include h
theorem OneM.xok : x.ok := h.ok.claims x (by rw [h.cl]; exact List.mem_singleton.2 rfl)
theorem OneM.sok (p : Value × SU) (hp : p ∈ l) : p.2.ok := h.xok.suits p.2 (mem_snd h.ml hp)
theorem OneM.to (hb : Below w.heap.size w w') : OneM w' P T CB SB cC cS rest srest l c x := ⟨h.cl, h.ok, h.bp.to hb, h.bt.to hb, h.bc.to hb, h.bs.to hb, h.rl, h.c1, h.c2, h.sl, h.s1, h.s2, h.ml, fun p hp => (h.hx p hp).to hb, h.n1, h.n2, h.n3, h.n4, h.n5, h.n6⟩
theorem OneM.drew : OneM w.drew P T CB SB cC cS rest srest l c x := h.to (Below.refl _ _).drew
theorem OneM.suF_len_ : ∀ a ∈ l, (suF a).length = 106 := fun a ha => suF_len (h.sok a ha).g
theorem OneM.k0 : w.cell? ⟨P, 0, none⟩ = some (.int .i64 c.now) := by rw [h.bp.cell]; exact co_now
theorem OneM.k42 : w.cell? ⟨P, 42, none⟩ = some (.slice (some ⟨CB, 0, none⟩) 1 cC) := by rw [h.bp.cell]; exact co_claims h.ok.pre h.ok.bank
theorem OneM.kb (b : Nat) (hb : b < 8) : w.cell? ⟨P, 34 + b, none⟩ = some (.int .i64 (c.bank.getD b 0)) := by rw [h.bp.cell]; exact co_bank h.ok.pre h.ok.bank b hb
theorem OneM.cell (j : Nat) (hj : j < 37) : w.cell? ⟨CB, j, none⟩ = (clF (.slice (some ⟨SB, 0, none⟩) l.length cS, x))[j]? := by rw [h.bc.cell, List.getElem?_append_left (by rw [clF_len h.xok.root]; exact hj)]
theorem OneM.cby : w.cell? ⟨CB, 0, none⟩ = some (.int .i64 x.by_) := by rw [h.cell 0 (by decide)]; exact cl_by
theorem OneM.cat : w.cell? ⟨CB, 2, none⟩ = some (.int .i64 x.at_) := by rw [h.cell 2 (by decide)]; exact cl_at
theorem OneM.cst : w.cell? ⟨CB, 3, none⟩ = some (.int .i64 x.st) := by rw [h.cell 3 (by decide)]; exact cl_st
theorem OneM.cv : w.cell? ⟨CB, 36, none⟩ = some (.slice (some ⟨SB, 0, none⟩) l.length cS) := by rw [h.cell 36 (by decide)]; exact cl_suits h.xok.root
theorem OneM.clen : (coC (.slice (some ⟨T, 0, none⟩) c.txs.length c.txs.length) (.slice (some ⟨CB, 0, none⟩) 1 cC) c).length = 43 := coC_len h.ok.pre h.ok.bank
theorem OneM.info : (Try.prog.info? 30).map (·.size) = some (coC (.slice (some ⟨T, 0, none⟩) c.txs.length c.txs.length) (.slice (some ⟨CB, 0, none⟩) 1 cC) c).length := info_co h.ok.pre h.ok.bank
theorem OneM.scell {q : Nat} {p : Value × SU} (hq : l[q]? = some p) (j : Nat) (hj : j < 106) : w.cell? ⟨SB, q * 106 + j, none⟩ = (suF p)[j]? := by rw [h.bs.cell]; exact rows_get l h.suF_len_ srest hq hj
theorem OneM.srow {q : Nat} {p : Value × SU} (hq : l[q]? = some p) : w.rangeAt SB (q * 106) (suF p) := h.bs.sub _ _ (rows_row l h.suF_len_ srest hq)
theorem OneM.sgame {q : Nat} {p : Value × SU} (hq : l[q]? = some p) : w.rangeAt SB (q * 106 + 1) (gcells p.1 p.2.g) := h.bs.sub _ _ (rows_part l h.suF_len_ srest hq 1 _ su_g (by rw [gcells_len (h.sok p (List.mem_of_getElem? hq)).g]; decide))
theorem OneM.sx : SuX [] w (.slice (some ⟨SB, 0, none⟩) l.length cS) x.suits := by
  have hl := rows_len' l h.suF_len_
  have o : Own w 0 44 106 (some ⟨SB, 0, none⟩) l.length cS (rows suF l) := own_from h.bs hl (by rw [List.length_append, hl]; exact h.sl) (Nat.zero_le _) h.s1 h.s2
  exact ⟨_, _, _, l, rfl, o.sl, h.ml, rfl, h.s1, fun _ _ h => (by cases h), fun p hp => (h.hx p hp).less (fun _ h => by cases h)⟩
theorem OneM.cox : CoX [] w (.agg (coC (.slice (some ⟨T, 0, none⟩) c.txs.length c.txs.length) (.slice (some ⟨CB, 0, none⟩) 1 cC) c).toArray) c := by
  have hl : (H8 c.txs).length = c.txs.length * 32 := by rw [H8_len _ h.ok.txs, Nat.mul_comm]
  refine ⟨_, _, rfl, ⟨_, _, _, rfl, h.bt.sl hl, rfl, Nat.le_refl _, fun _ _ h => (by cases h)⟩, ?_⟩
  rw [h.cl]
  have o : Own w 0 39 37 (some ⟨CB, 0, none⟩) 1 cC (rows clF [(.slice (some ⟨SB, 0, none⟩) l.length cS, x)]) := own_from (n := 1) (by rw [rows_one]; exact h.bc) (by rw [rows_one, clF_len h.xok.root]) (by rw [rows_one, List.length_append, clF_len h.xok.root]; exact h.rl) (Nat.zero_le _) h.c1 h.c2
  refine ⟨some ⟨CB, 0, none⟩, 1, cC, [(.slice (some ⟨SB, 0, none⟩) l.length cS, x)], rfl, o.sl, rfl, rfl, h.c1, fun _ _ h => (by cases h), fun p hp => ?_⟩
  rw [List.mem_singleton.1 hp]
  exact h.sx
/-- what lies elsewhere may be stored to -/
theorem OneM.but {q : Nat} (hr : RBut (some q) w w') (h1 : q ≠ P) (h2 : q ≠ T) (h3 : q ≠ CB) (h4 : q ≠ SB) (hh : ∀ p ∈ l, HsX [P, CB, SB] w' p.1 p.2.hs) : OneM w' P T CB SB cC cS rest srest l c x :=
  ⟨h.cl, h.ok, h.bp.but hr (by intro e; injection e with e; exact h1 e.symm), h.bt.but hr (by intro e; injection e with e; exact h2 e.symm), h.bc.but hr (by intro e; injection e with e; exact h3 e.symm), h.bs.but hr (by intro e; injection e with e; exact h4 e.symm), h.rl, h.c1, h.c2, h.sl, h.s1, h.s2, h.ml, hh, h.n1, h.n2, h.n3, h.n4, h.n5, h.n6⟩
/-- a cell of the court is stored -/
theorem OneM.put_ {i : Nat} {u : Value} {c' : CO} (hi : i < 43) (hp : put_ (coC (.slice (some ⟨T, 0, none⟩) c.txs.length c.txs.length) (.slice (some ⟨CB, 0, none⟩) 1 cC) c) i [u] = coC (.slice (some ⟨T, 0, none⟩) c.txs.length c.txs.length) (.slice (some ⟨CB, 0, none⟩) 1 cC) c')
    (h1 : c'.claims = c.claims) (h2 : c'.txs = c.txs) (h3 : c'.ok) : OneM (w.setCell ⟨P, i, none⟩ u) P T CB SB cC cS rest srest l c' x := by
  have hr : RBut (some P) w (w.setCell ⟨P, i, none⟩ u) := RBut.setC _ _ _ _
  refine ⟨h1.trans h.cl, h3, ?_, ?_, h.bc.but hr (by intro e; injection e with e; exact h.n2 e.symm), h.bs.but hr (by intro e; injection e with e; exact h.n3 e.symm), h.rl, h.c1, h.c2, h.sl, h.s1, h.s2, h.ml, fun p hp => (h.hx p hp).but hr (by simp), h.n1, h.n2, h.n3, h.n4, h.n5, h.n6⟩
  · rw [h2]
    exact co_store h.bp (by rw [h.clen]; exact hi) hp
  · rw [h2]
    exact h.bt.but hr (by intro e; injection e with e; exact h.n1 e.symm)
theorem OneM.bank (b : Nat) (hb : b < 8) (z : Int) : OneM (w.setCell ⟨P, 34 + b, none⟩ (.int .i64 z)) P T CB SB cC cS rest srest l { c with bank := c.bank.set b z } x :=
  h.put_ (by omega) (put_bank h.ok.pre h.ok.bank b hb z) rfl rfl ⟨h.ok.pre, h.ok.txs, h.ok.n, by show (c.bank.set b z).length = 8; rw [List.length_set]; exact h.ok.bank, h.ok.claims, h.ok.m⟩
theorem OneM.now (z : Int) : OneM (w.setCell ⟨P, 0, none⟩ (.int .i64 z)) P T CB SB cC cS rest srest l { c with now := z } x :=
  h.put_ (by omega) (put_now z) rfl rfl ⟨h.ok.pre, h.ok.txs, h.ok.n, h.ok.bank, h.ok.claims, h.ok.m⟩
/-- the claim's standing is stored -/
theorem OneM.st (z : Int) : OneM (w.setCell ⟨CB, 3, none⟩ (.int .i64 z)) P T CB SB cC cS rest srest l { c with claims := [{ x with st := z }] } { x with st := z } := by
  have hr : RBut (some CB) w (w.setCell ⟨CB, 3, none⟩ (.int .i64 z)) := RBut.setC _ _ _ _
  refine ⟨rfl, ⟨h.ok.pre, h.ok.txs, h.ok.n, h.ok.bank, fun y hy => ?_, by simp⟩, h.bp.but hr (by intro e; injection e with e; exact h.n2 e), h.bt.but hr (by intro e; injection e with e; exact h.n4 e), co_store h.bc (by rw [List.length_append, clF_len h.xok.root]; omega) ?_, h.bs.but hr (by intro e; injection e with e; exact h.n6 e.symm), h.rl, h.c1, h.c2, h.sl, h.s1, h.s2, h.ml, fun p hp => (h.hx p hp).but hr (by simp), h.n1, h.n2, h.n3, h.n4, h.n5, h.n6⟩
  · rw [List.mem_singleton.1 hy]
    exact ⟨h.xok.root, h.xok.suits, h.xok.n⟩
  · rw [put_front _ _ _ _ (by rw [clF_len h.xok.root]; simp), put_st]
/-- a suit's game is stored -/
theorem OneM.game {q : Nat} {p : Value × SU} (hq : l[q]? = some p) {u : Value} {g : GD} {hs : List (List UInt8)} (hg : GLen g) (hok : SU.ok { p.2 with g := g, hs := hs }) (hu : HsX [P, CB, SB] w u hs) (hr : RBut (some SB) w w')
    (hb : Blk w' SB 44 (Go.Proofs.Ytdopgooglicaiaa.put_ (rows suF l ++ srest) (q * 106 + 1) (gcells u g))) :
    OneM w' P T CB SB cC cS rest srest (l.set q (u, { p.2 with g := g, hs := hs })) { c with claims := [{ x with suits := x.suits.set q { p.2 with g := g, hs := hs } }] } { x with suits := x.suits.set q { p.2 with g := g, hs := hs } } := by
  have hpok := h.sok p (List.mem_of_getElem? hq)
  rw [rows_put l h.suF_len_ srest hq 1 (gcells u g) (b := (u, { p.2 with g := g, hs := hs })) (put_sg (v := p.1) (s := p.2) hpok.g g hg hs) (by rw [gcells_len hg]; decide)] at hb
  refine ⟨rfl, ⟨h.ok.pre, h.ok.txs, h.ok.n, h.ok.bank, fun y hy => ?_, by simp⟩, h.bp.but hr (by intro e; injection e with e; exact h.n3 e), h.bt.but hr (by intro e; injection e with e; exact h.n5 e), ?_, hb, h.rl, h.c1, h.c2, by rw [List.length_set]; exact h.sl, by rw [List.length_set]; exact h.s1, h.s2, ?_, fun r hr' => ?_, h.n1, h.n2, h.n3, h.n4, h.n5, h.n6⟩
  · rw [List.mem_singleton.1 hy]
    refine ⟨h.xok.root, fun s hs' => ?_, by show (x.suits.set q _).length ≤ _; rw [List.length_set]; exact h.xok.n⟩
    rcases List.mem_or_eq_of_mem_set hs' with h1 | h1
    · exact h.xok.suits s h1
    · rw [h1]
      exact hok
  · rw [List.length_set]
    exact h.bc.but hr (by intro e; injection e with e; exact h.n6 e)
  · rw [List.map_set, h.ml]
  · rcases List.mem_or_eq_of_mem_set hr' with h1 | h1
    · exact (h.hx r h1).but hr (by simp)
    · rw [h1]
      exact hu.but hr (by simp)
end
end Go.Proofs.Ytdopgooglicaiaa
