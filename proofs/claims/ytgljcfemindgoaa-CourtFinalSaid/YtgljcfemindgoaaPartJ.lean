/- The texts of this claim, part J: words, plain laws, walks. -/
import Derived.Test.YtgljcfemindgoaaPartG
/- The walk of court.Say. -/
set_option linter.unusedSimpArgs false
set_option linter.unusedVariables false
namespace Go.Proofs.Ytgljcfemindgoaa
open Go.RowKit
set_option maxRecDepth 100000
/-- what a claim makes of a court -/
def saidC (c : CO) (b : Nat) (n : Int) (root : List UInt8) : CO := { c with bank := c.bank.set b (c.bank.getD b 0 - 100), claims := c.claims ++ [⟨(b : Int), n, c.now, 1, root, []⟩] }
theorem zeroCL_cells : (#[.int .i64 0, .int .i64 0, .int .i64 0, .int .i64 0, .int .u8 0, .int .u8 0, .int .u8 0, .int .u8 0, .int .u8 0, .int .u8 0, .int .u8 0, .int .u8 0, .int .u8 0, .int .u8 0, .int .u8 0, .int .u8 0, .int .u8 0, .int .u8 0, .int .u8 0, .int .u8 0, .int .u8 0, .int .u8 0, .int .u8 0, .int .u8 0, .int .u8 0, .int .u8 0, .int .u8 0, .int .u8 0, .int .u8 0, .int .u8 0, .int .u8 0, .int .u8 0, .int .u8 0, .int .u8 0, .int .u8 0, .int .u8 0, .slice none 0 0] : Array Value) = (clF (.slice none 0 0, zeroCL)).toArray := rfl
theorem fold_claim (p : Value × CL) (h : p.2.root.length = 32) : List.foldl (fun (cs : Array Value) (x : Value × Nat) => cs.setIfInBounds x.2 x.1) #[.int .i64 0, .int .i64 0, .int .i64 0, .int .i64 0, .int .u8 0, .int .u8 0, .int .u8 0, .int .u8 0, .int .u8 0, .int .u8 0, .int .u8 0, .int .u8 0, .int .u8 0, .int .u8 0, .int .u8 0, .int .u8 0, .int .u8 0, .int .u8 0, .int .u8 0, .int .u8 0, .int .u8 0, .int .u8 0, .int .u8 0, .int .u8 0, .int .u8 0, .int .u8 0, .int .u8 0, .int .u8 0, .int .u8 0, .int .u8 0, .int .u8 0, .int .u8 0, .int .u8 0, .int .u8 0, .int .u8 0, .int .u8 0, .slice none 0 0] ((clF p).zipIdx) = (clF p).toArray := by
  apply Array.ext'
  rw [fold_fill' (clF p) 0 _ (by rw [clF_len h]; decide)]
  rw [clF_len h]
  simp
theorem built_claim (b n now : Int) (root : List UInt8) (h : root.length = 32) : Try.prog.built 38 [(0, .int .i64 b), (1, .int .i64 n), (2, .int .i64 now), (3, .int .i64 1), (4, .agg (B8 root).toArray)] = some (clF (.slice none 0 0, ⟨b, n, now, 1, root, []⟩)).toArray := by
  rw [built_struct (z := .agg (clF (.slice none 0 0, zeroCL)).toArray) (places := [(0, 1), (1, 1), (2, 1), (3, 1), (4, 32), (36, 1)]) (by kernel_rfl) Try.underlying38 (by kernel_rfl)]
  rw [show (Value.agg (clF (.slice none 0 0, zeroCL)).toArray).cells = (clF (.slice none 0 0, zeroCL)).toArray from rfl]
  rw [fill_cons _ _ [.int .i64 b] 0 0 _ _ rfl rfl (by rw [clF_len rfl]; simp)]
  rw [show put_ (clF (.slice none 0 0, zeroCL)) 0 [.int .i64 b] = clF (.slice none 0 0, ⟨b, 0, 0, 0, zero32, []⟩) from rfl]
  rw [fill_cons _ _ [.int .i64 n] 1 1 _ _ rfl rfl (by rw [clF_len rfl]; simp)]
  rw [show put_ (clF (.slice none 0 0, ⟨b, 0, 0, 0, zero32, []⟩)) 1 [.int .i64 n] = clF (.slice none 0 0, ⟨b, n, 0, 0, zero32, []⟩) from rfl]
  rw [fill_cons _ _ [.int .i64 now] 2 2 _ _ rfl rfl (by rw [clF_len rfl]; simp)]
  rw [show put_ (clF (.slice none 0 0, ⟨b, n, 0, 0, zero32, []⟩)) 2 [.int .i64 now] = clF (.slice none 0 0, ⟨b, n, now, 0, zero32, []⟩) from rfl]
  rw [fill_cons _ _ [.int .i64 1] 3 3 _ _ rfl rfl (by rw [clF_len rfl]; simp)]
  rw [show put_ (clF (.slice none 0 0, ⟨b, n, now, 0, zero32, []⟩)) 3 [.int .i64 1] = clF (.slice none 0 0, ⟨b, n, now, 1, zero32, []⟩) from rfl]
  rw [fill_cons _ _ (B8 root) 4 4 _ _ (by rw [B8_len, h]; rfl) rfl (by rw [clF_len rfl, B8_len, h]; decide)]
  rw [show put_ (clF (.slice none 0 0, ⟨b, n, now, 1, zero32, []⟩)) 4 (B8 root) = clF (.slice none 0 0, ⟨b, n, now, 1, root, []⟩) from by
    have := put_in [Value.int .i64 b, .int .i64 n, .int .i64 now, .int .i64 1] (B8 zero32) [Value.slice none 0 0] (B8 root) 0 (by rw [B8_len, B8_len, h]; decide)
    rw [put_all _ _ (by rw [B8_len, B8_len, h]; rfl)] at this
    exact this]
  rfl
set_option maxRecDepth 100000 in
set_option maxHeartbeats 4000000 in
theorem sayC_any (v : Value) (c : CO) (hc : c.ok) (i n : Int) (root : List UInt8) (hroot : root.length = 32) (w : World) (h19 : c.claims.length < 20) (h : CoX [] w v c) (r : CO × Int)
    (hr : (¬ (partyB i ∧ 1 ≤ n ∧ n ≤ c.txs.length) ∧ r = (c, 1)) ∨ (partyB i ∧ 1 ≤ n ∧ n ≤ c.txs.length ∧ c.bank.getD i.toNat 0 < 100 ∧ r = (c, 13)) ∨ (partyB i ∧ 1 ≤ n ∧ n ≤ c.txs.length ∧ 100 ≤ c.bank.getD i.toNat 0 ∧ c.bank.getD i.toNat 0 ≤ 1000000 ∧ r = (saidC c i.toNat n root, 0))) :
    Calls Try.prog 12 #[v, .int .i64 i, .int .i64 n, hv root] w (RCe w r.1 r.2) := by
  unfold hv
  obtain ⟨vt, vc, rfl, hx⟩ := h
  have hX : CoX [] w (.agg (coC vt vc c).toArray) c := ⟨vt, vc, rfl, hx⟩
  obtain ⟨W, HW, hbw, bp, br, bz⟩ : ∃ W, Hid (W = ((w.alloc (.cells (coC vt vc c).toArray 30)).alloc (.cells (B8 root).toArray 25)).alloc (.cells #[.int .i64 0, .int .u8 0, .int .u8 0, .int .u8 0, .int .u8 0, .int .u8 0, .int .u8 0, .int .u8 0, .int .u8 0, .int .u8 0, .int .u8 0, .int .u8 0, .int .u8 0, .int .u8 0, .int .u8 0, .int .u8 0, .int .u8 0, .int .u8 0, .int .u8 0, .int .u8 0, .int .u8 0, .int .u8 0, .int .u8 0, .int .u8 0, .int .u8 0, .int .u8 0, .int .u8 0, .int .u8 0, .int .u8 0, .int .u8 0, .int .u8 0, .int .u8 0, .int .u8 0, .slice none 0 0, .int .i64 0, .int .i64 0, .int .i64 0, .int .i64 0, .int .i64 0, .int .i64 0, .int .i64 0, .int .i64 0, .slice none 0 0] 30)) ∧ Below w.heap.size w W ∧
      Blk W w.heap.size 30 (coC vt vc c) ∧ Blk W (w.heap.size + 1) 25 (B8 root) ∧ Blk W (w.heap.size + 2) 30 zeroCC := by
    refine ⟨_, rfl, (((Below.refl _ _).alloc (Nat.le_refl _) _).alloc (by simp) _).alloc (by simp; omega) _, ?_, ?_, ?_⟩
    · exact (Blk.new w (coC vt vc c).toArray 30).to (((Below.refl _ _).alloc (Nat.le_refl _) _).alloc (by simp) _)
    · have := (Blk.new (w.alloc (.cells (coC vt vc c).toArray 30)) (B8 root).toArray 25).to ((Below.refl _ _).alloc (Nat.le_refl _) (.cells #[.int .i64 0, .int .u8 0, .int .u8 0, .int .u8 0, .int .u8 0, .int .u8 0, .int .u8 0, .int .u8 0, .int .u8 0, .int .u8 0, .int .u8 0, .int .u8 0, .int .u8 0, .int .u8 0, .int .u8 0, .int .u8 0, .int .u8 0, .int .u8 0, .int .u8 0, .int .u8 0, .int .u8 0, .int .u8 0, .int .u8 0, .int .u8 0, .int .u8 0, .int .u8 0, .int .u8 0, .int .u8 0, .int .u8 0, .int .u8 0, .int .u8 0, .int .u8 0, .int .u8 0, .slice none 0 0, .int .i64 0, .int .i64 0, .int .i64 0, .int .i64 0, .int .i64 0, .int .i64 0, .int .i64 0, .int .i64 0, .slice none 0 0] 30))
      simpa using this
    · have := Blk.new ((w.alloc (.cells (coC vt vc c).toArray 30)).alloc (.cells (B8 root).toArray 25)) #[.int .i64 0, .int .u8 0, .int .u8 0, .int .u8 0, .int .u8 0, .int .u8 0, .int .u8 0, .int .u8 0, .int .u8 0, .int .u8 0, .int .u8 0, .int .u8 0, .int .u8 0, .int .u8 0, .int .u8 0, .int .u8 0, .int .u8 0, .int .u8 0, .int .u8 0, .int .u8 0, .int .u8 0, .int .u8 0, .int .u8 0, .int .u8 0, .int .u8 0, .int .u8 0, .int .u8 0, .int .u8 0, .int .u8 0, .int .u8 0, .int .u8 0, .int .u8 0, .int .u8 0, .slice none 0 0, .int .i64 0, .int .i64 0, .int .i64 0, .int .i64 0, .int .i64 0, .int .i64 0, .int .i64 0, .int .i64 0, .slice none 0 0] 30
      rw [show ((w.alloc (.cells (coC vt vc c).toArray 30)).alloc (.cells (B8 root).toArray 25)).heap.size = w.heap.size + 2 from by simp] at this
      exact this
  have HC := Lib.hid hc
  have HRT := Lib.hid hroot
  have HR := Lib.hid hr
  have HPR := Lib.hid (And.intro hc.pre hc.bank)
  have ICO := Lib.hid (info_co (vt := vt) (vc := vc) hc.pre hc.bank)
  have hWz := bz.lt
  have hXW := hX.to hbw
  have hvt := hx.1.one
  have hvc := hx.2.one
  have HTL : Hid ((H8 c.txs).length = c.txs.length * 32) := (show _ = _ by rw [H8_len _ hc.txs, Nat.mul_comm])
  have hn4 := hc.n
  clear hc hroot hx hX hr
  go_enter Try.func12, Try.ntmps12
  go_upto_region 1 with fail
  refine wp_at HW.out ?_
  clear HW
  go_wp2_with (first
    | (refine wpl_load_fld (by rfl) _ _ rfl w.heap.size 0 rfl (coC vt vc c) _ bp.range Try.underlying30 rfl ICO.out ?_))
  refine (ownC_any _ c HC.out W hXW).mono ?_
  rintro e w1 ⟨T, vc1, rfl, hT, bT, hcl, hb1⟩
  obtain ⟨A, nC, cC, l, rfl, ow, hml, hln, hsu⟩ := hcl
  have bp1 := bp.to hb1
  have br1 := br.to hb1
  have bz1 := bz.to hb1
  have f1 := hbw.trans (hb1.mono hbw.size)
  have IC1 := Lib.hid (info_co (vt := .slice (some ⟨T, 0, none⟩) c.txs.length c.txs.length) (vc := .slice A nC cC) HPR.out.1 HPR.out.2)
  have HML := Lib.hid hml
  have HLN := Lib.hid hln
  have HSU := Lib.hid hsu
  have hnC : nC < 20 := by rw [← hln, ← List.length_map (f := (·.2)), hml]; exact h19
  clear bp br bz hb1 hbw hXW ICO hml hln hsu
  go_wp2_with (first
    | (refine wpl_store_fld (by rfl) _ _ _ rfl w.heap.size 0 _ _ (coC (.slice (some ⟨T, 0, none⟩) c.txs.length c.txs.length) (.slice A nC cC) c) rfl _ rfl rfl bp1 (by rw [coC_len HPR.out.1 HPR.out.2, coC_len HPR.out.1 HPR.out.2]; exact Nat.le_refl _) IC1.out (coC_one rfl rfl) ?_
       intro w2 bp2 bu2
       rw [put_all _ _ (by rw [coC_len HPR.out.1 HPR.out.2, coC_len HPR.out.1 HPR.out.2])] at bp2))
  have k33 : w2.cell? ⟨w.heap.size, 33, none⟩ = some (.slice (some ⟨T, 0, none⟩) c.txs.length c.txs.length) := by rw [bp2.cell]; exact co_txs HPR.out.1
  have k42 : w2.cell? ⟨w.heap.size, 42, none⟩ = some (.slice A nC cC) := by rw [bp2.cell]; exact co_claims HPR.out.1 HPR.out.2
  have k0 : w2.cell? ⟨w.heap.size, 0, none⟩ = some (.int .i64 c.now) := by rw [bp2.cell]; exact co_now
  have bT2 := bT.but bu2 (by intro e; injection e; omega)
  have br2 := br1.but bu2 (by intro e; injection e; omega)
  have bz2 := bz1.but bu2 (by intro e; injection e; omega)
  have ow2 := own_but ow bu2 (fun k hk => by injection hk; omega)
  have f2 := f1.trans (below_but bu2 (Nat.le_refl _) f1.size)
  have HSU2 : Hid (∀ p ∈ l, SuO w2 (bnd A) p.1 p.2.suits) := (show ∀ p ∈ l, SuO w2 (bnd A) p.1 p.2.suits from fun p hp => (HSU.out p hp).but bu2 (by
    cases A with
    | none => have := none_len ow; have := HLN.out; have := List.length_pos_of_mem hp; omega
    | some a => have := (ow.lt a.block rfl).1; simp only [bnd]; omega))
  have HX2 : Hid (∀ S : List Nat, (∀ b ∈ S, b < T) → CoX S w2 (.agg (coC (.slice (some ⟨T, 0, none⟩) c.txs.length c.txs.length) (.slice A nC cC) c).toArray) c) := (show ∀ S : List Nat, (∀ b ∈ S, b < T) → CoX S _ _ _ from fun S hS => ⟨_, _, rfl, ⟨_, _, _, rfl, bT2.sl HTL.out, rfl, Nat.le_refl _, fun b hb hm => by have hb' : T = b := (by injection hb); have := hS b hm; omega⟩, ClO.x (B := T + 1) ⟨A, nC, cC, l, rfl, ow2, HML.out, HLN.out, HSU2.out⟩ (fun b hb => by have := hS b hb; omega)⟩)
  clear bT bu2 br1 bz1 ow f1 bp1 HSU
  by_cases hp : partyB i
  · obtain ⟨b, rfl⟩ : ∃ b : Nat, i = (b : Int) := ⟨i.toNat, by have := hp.1; omega⟩
    have hb8 : b < 8 := by have := hp.2; omega
    refine (party_yes _ w2 hp).mono ?_
    rintro e w' ⟨rfl, rfl⟩
    have kb : w2.cell? ⟨w.heap.size, 34 + b, none⟩ = some (.int .i64 (c.bank.getD b 0)) := by rw [bp2.cell]; exact co_bank HPR.out.1 HPR.out.2 b hb8
    obtain ⟨z, hz⟩ : ∃ z, c.bank.getD b 0 = z := ⟨_, rfl⟩
    rw [hz] at kb
    have HZ := Lib.hid hz
    clear hz
    by_cases hn : 1 ≤ n ∧ n ≤ (c.txs.length : Int)
    · have t1 : ¬ n < 1 := by omega
      have t2 : ¬ (c.txs.length : Int) < n := by omega
      by_cases hlow : z < 100
      · obtain rfl : r = (c, 13) := by
          rcases HR.out with h | h | h
          · exact absurd ⟨hp, hn⟩ h.1
          · exact h.2.2.2.2
          · exact absurd h.2.2.2.1 (by simp only [Int.toNat_natCast]; rw [HZ.out]; omega)
        go_wp2_with (first
          | (refine wpl_load_fld (by rfl) _ _ rfl w.heap.size 0 rfl (coC (.slice (some ⟨T, 0, none⟩) c.txs.length c.txs.length) (.slice A nC cC) c) _ bp2.range Try.underlying30 rfl IC1.out ?_)
          | (refine wpl_store_fld (by rfl) _ _ _ rfl (w.heap.size + 2) 0 _ _ (coC (.slice (some ⟨T, 0, none⟩) c.txs.length c.txs.length) (.slice A nC cC) c) rfl _ rfl rfl bz2 (by rw [coC_len HPR.out.1 HPR.out.2]; exact Nat.le_refl _) IC1.out (coC_one rfl rfl) ?_
             intro w6 bz6 bu6
             rw [put_all _ _ (by rw [coC_len HPR.out.1 HPR.out.2]; rfl)] at bz6))
        refine bodyPost_ret (results_blk2 Try.results12 rfl rfl bz6 Try.underlying30 rfl IC1.out) rfl ?_
        exact ⟨_, rfl, fun S hS => ((HX2.out ((w.heap.size + 2) :: S) (fun b hb => (List.mem_cons.1 hb).elim (fun h => by omega) (fun h => by have := hS b h; omega))).but bu6 (by simp)).less (fun b hb => List.mem_cons_of_mem _ hb), f2.trans (below_but bu6 (by omega) f2.size)⟩
      · obtain ⟨hbk, hbm, hre⟩ : 100 ≤ z ∧ z ≤ 1000000 ∧ r = (saidC c b n root, 0) := by
          rcases HR.out with h | h | h
          · exact absurd ⟨hp, hn⟩ h.1
          · exact absurd h.2.2.2.1 (by simp only [Int.toNat_natCast]; rw [HZ.out]; exact hlow)
          · have h4 := h.2.2.2.1
            have h5 := h.2.2.2.2.1
            simp only [Int.toNat_natCast] at h4 h5
            rw [HZ.out] at h4 h5
            exact ⟨h4, h5, h.2.2.2.2.2⟩
        subst hre
        have t3 : ¬ z < 100 := hlow
        have fzb := bp2.fz (34 + b)
        have HBC := Lib.hid (built_claim b n c.now root HRT.out)
        have HFC := Lib.hid (fold_claim (.slice none 0 0, ⟨b, n, c.now, 1, root, []⟩) HRT.out)
        obtain ⟨B', hB'⟩ : ∃ z2, c.bank.set b (z - 100) = z2 := ⟨_, rfl⟩
        have HB8 : Hid (B'.length = 8) := (show _ = _ by rw [← hB', List.length_set]; exact HPR.out.2)
        have bp3 : Blk (w2.setCell ⟨w.heap.size, 34 + b, none⟩ (.int .i64 (z - 100))) w.heap.size 30 (coC (.slice (some ⟨T, 0, none⟩) c.txs.length c.txs.length) (.slice A nC cC) { c with bank := B' }) := co_store bp2 (by rw [coC_len HPR.out.1 HPR.out.2]; omega) (by rw [put_bank HPR.out.1 HPR.out.2 b hb8, hB'])
        have u3 : RBut (some w.heap.size) w2 (w2.setCell ⟨w.heap.size, 34 + b, none⟩ (.int .i64 (z - 100))) := RBut.setC _ _ _ _
        have HBE := Lib.hid hB'
        clear hB'
        go_upto_region 9 with fail
        generalize w2.setCell ⟨w.heap.size, 34 + b, none⟩ (.int .i64 (z - 100)) = w3 at *
        have br3 := br2.but u3 (by intro e; injection e; omega)
        have bz3 := bz2.but u3 (by intro e; injection e; omega)
        have bT3 := bT2.but u3 (by intro e; injection e; omega)
        have ow3 := own_but ow2 u3 (fun k hk => by injection hk; omega)
        have f3 := f2.trans (below_but u3 (Nat.le_refl _) f2.size)
        have k42' : w3.cell? ⟨w.heap.size, 42, none⟩ = some (.slice A nC cC) := by rw [bp3.cell]; exact co_claims HPR.out.1 HB8.out
        have k0' : w3.cell? ⟨w.heap.size, 0, none⟩ = some (.int .i64 c.now) := by rw [bp3.cell]; exact co_now
        clear bp2 br2 bz2 bT2 ow2 f2 k0 k33 k42 kb fzb
        have hsz : (clF (.slice none 0 0, (⟨b, n, c.now, 1, root, []⟩ : CL))).length = 37 := clF_len HRT.out
        go_upto_region 10 with (first
          | (refine wpl_load_fld (by rfl) _ _ rfl (w.heap.size + 1) 0 rfl (B8 root) _ br3.range Try.underlying25 rfl (info_hash HRT.out) ?_)
          | (refine wpl_build (by rfl) _ _ rfl _ (by exact HBC.out) ?_)
          | (at_builtin
             rw [HFC.out]
             refine wpl_push _ _ _ elC rfl rfl rfl ow3 rfl (by rw [List.size_toArray, clF_len HRT.out]) (by intro u hu; exact clF_one rfl u (by simpa using hu)) (by omega) (by omega) (by have := bT3.lt; omega) ?_
             intro A4 c4 w4 g4 h4 gb4
             have bp4 := bp3.below h4 (by omega)
             have k42x : w4.cell? ⟨w.heap.size, 42, none⟩ = some (.slice A nC cC) := by rw [bp4.cell]; exact co_claims HPR.out.1 HB8.out
             have fz4 := bp4.fz 42
             clear k42' k0'))
        have bz4 := bz3.below h4 (by omega)
        have bT4 := bT3.below h4 (by omega)
        have f4 := f3.trans (h4.mono (by omega))
        have o4 : Own w4 (T + 1) 38 37 A4 (nC + 1) c4 (rows clF (l ++ [(.slice none 0 0, ⟨b, n, c.now, 1, root, []⟩)])) := (by have := g4.own; rw [rows_app, rows_one]; exact this)
        have bp5 : Blk (w4.setCell ⟨w.heap.size, 42, none⟩ (.slice A4 (nC + 1) c4)) w.heap.size 30 (coC (.slice (some ⟨T, 0, none⟩) c.txs.length c.txs.length) (.slice A4 (nC + 1) c4) { c with bank := B', claims := c.claims ++ [⟨b, n, c.now, 1, root, []⟩] }) := co_store bp4 (Nat.lt_of_lt_of_eq (by decide : 42 < 43) (coC_len (c := { c with bank := B' }) HPR.out.1 HB8.out).symm) (put_claims (c := { c with bank := B' }) HPR.out.1 HB8.out _)
        have u5 : RBut (some w.heap.size) w4 (w4.setCell ⟨w.heap.size, 42, none⟩ (.slice A4 (nC + 1) c4)) := RBut.setC _ _ _ _
        generalize w4.setCell ⟨w.heap.size, 42, none⟩ (.slice A4 (nC + 1) c4) = w5 at *
        have bz5 := bz4.but u5 (by intro e; injection e; omega)
        have bT5 := bT4.but u5 (by intro e; injection e; omega)
        have o5 := own_but o4 u5 (fun k hk => by injection hk; omega)
        have f5 := f4.trans (below_but u5 (Nat.le_refl _) f4.size)
        have HSU5 : ∀ p ∈ l, SuX [] w5 p.1 p.2.suits := fun p hp => by
          have h2 := HSU2.out p hp
          have h3 : SuO w5 (bnd A) p.1 p.2.suits := by
            cases A with
            | none =>
              have := none_len ow3
              have := HLN.out
              have := List.length_pos_of_mem hp
              omega
            | some a =>
              have h6 := (ow3.lt a.block rfl).1
              have h7 : w.heap.size < bnd (some a) := by simp only [bnd]; omega
              exact ((h2.but u3 h7).but (p := a.block) gb4 (by simp only [bnd]; omega)).but u5 h7
          exact h3.x (fun _ h => by cases h)
        have hX5 : CoX [] w5 (.agg (coC (.slice (some ⟨T, 0, none⟩) c.txs.length c.txs.length) (.slice A4 (nC + 1) c4) { c with bank := B', claims := c.claims ++ [⟨b, n, c.now, 1, root, []⟩] }).toArray) { c with bank := B', claims := c.claims ++ [⟨b, n, c.now, 1, root, []⟩] } :=
          ⟨_, _, rfl, ⟨_, _, _, rfl, bT5.sl HTL.out, rfl, Nat.le_refl _, fun _ _ h => by cases h⟩, A4, nC + 1, c4, l ++ [(.slice none 0 0, ⟨b, n, c.now, 1, root, []⟩)], rfl, o5.sl, by rw [List.map_append, HML.out]; rfl, by rw [List.length_append, HLN.out]; rfl, o5.le.1, fun _ _ h => (by cases h), fun p hp => by
            rcases List.mem_append.1 hp with h | h
            · exact HSU5 p h
            · rw [List.mem_singleton.1 h]
              exact ⟨none, 0, 0, [], rfl, Sl.nil_, rfl, rfl, Nat.le_refl _, fun _ h => (by cases h), fun _ h => by cases h⟩⟩
        have hok : CO.ok { c with bank := B', claims := c.claims ++ [⟨b, n, c.now, 1, root, []⟩] } := ⟨HC.out.pre, HC.out.txs, HC.out.n, HB8.out, fun x hx => by
          rcases List.mem_append.1 hx with h | h
          · exact HC.out.claims x h
          · rw [List.mem_singleton.1 h]
            exact ⟨HRT.out, fun _ h => (by cases h), by simp⟩, by rw [List.length_append]; simp; omega⟩
        have IC5 := Lib.hid (info_co (vt := .slice (some ⟨T, 0, none⟩) c.txs.length c.txs.length) (vc := .slice A4 (nC + 1) c4) (c := { c with bank := B', claims := c.claims ++ [⟨b, n, c.now, 1, root, []⟩] }) HPR.out.1 HB8.out)
        have HX5 := Lib.hid hX5
        have HOK := Lib.hid hok
        clear hX5 hok HSU5 o5 o4 bT5 u5 bT4 bz4 f4 g4 h4 gb4 bp4 fz4 k42x bp3 bz3 bT3 ow3 f3 br3 u3
        go_wp2_with (first
          | (refine wpl_load_fld (by rfl) _ _ rfl w.heap.size 0 rfl (coC (.slice (some ⟨T, 0, none⟩) c.txs.length c.txs.length) (.slice A4 (nC + 1) c4) { c with bank := B', claims := c.claims ++ [⟨b, n, c.now, 1, root, []⟩] }) _ bp5.range Try.underlying30 rfl IC5.out ?_))
        refine (ownC_any _ _ HOK.out w5 HX5.out).mono ?_
        intro e w6 hro
        obtain ⟨vt6, vc6, rfl, o6t, o6c, hb6, hfin⟩ := hro.xt HOK.out
        have hz5 := bz5.lt
        have hf5 := f5.size
        have bz6 := bz5.to hb6
        have f6 := f5.trans (hb6.mono f5.size)
        have IC6 := Lib.hid (info_co (vt := vt6) (vc := vc6) (c := { c with bank := B', claims := c.claims ++ [⟨b, n, c.now, 1, root, []⟩] }) HPR.out.1 HB8.out)
        have HL6 : Hid ((coC vt6 vc6 { c with bank := B', claims := c.claims ++ [⟨b, n, c.now, 1, root, []⟩] }).length = 43) := Lib.hid (coC_len (c := { c with bank := B', claims := c.claims ++ [⟨b, n, c.now, 1, root, []⟩] }) HPR.out.1 HB8.out)
        clear hro bz5 f5 HX5
        go_wp2_with (first
          | (refine wpl_store_fld (by rfl) _ _ _ rfl (w.heap.size + 2) 0 _ _ (coC vt6 vc6 { c with bank := B', claims := c.claims ++ [⟨b, n, c.now, 1, root, []⟩] }) rfl _ rfl rfl bz6 (by rw [HL6.out]; exact Nat.le_refl _) IC6.out (coC_one o6t o6c) ?_
             intro w7 bz7 bu7
             rw [put_all _ _ (by rw [HL6.out]; rfl)] at bz7))
        refine bodyPost_ret (results_blk2 Try.results12 rfl rfl bz7 Try.underlying30 rfl IC6.out) rfl ?_
        refine ⟨_, rfl, ?_, f6.trans (below_but bu7 (by omega) f6.size)⟩
        intro S hS
        show CoX S w7 _ (saidC c b n root)
        rw [show saidC c b n root = { c with bank := B', claims := c.claims ++ [⟨b, n, c.now, 1, root, []⟩] } from by unfold saidC; rw [HZ.out, HBE.out]]
        exact hfin (w.heap.size + 2) w7 hz5 bu7 S (fun b hb => by have := hS b hb; omega)
    · obtain rfl : r = (c, 1) := by
        rcases HR.out with h | h | h
        · exact h.2
        · exact absurd ⟨h.2.1, h.2.2.1⟩ hn
        · exact absurd ⟨h.2.1, h.2.2.1⟩ hn
      by_cases h1 : n < 1
      · go_wp2_with (first
          | (refine wpl_load_fld (by rfl) _ _ rfl w.heap.size 0 rfl (coC (.slice (some ⟨T, 0, none⟩) c.txs.length c.txs.length) (.slice A nC cC) c) _ bp2.range Try.underlying30 rfl IC1.out ?_)
          | (refine wpl_store_fld (by rfl) _ _ _ rfl (w.heap.size + 2) 0 _ _ (coC (.slice (some ⟨T, 0, none⟩) c.txs.length c.txs.length) (.slice A nC cC) c) rfl _ rfl rfl bz2 (by rw [coC_len HPR.out.1 HPR.out.2]; exact Nat.le_refl _) IC1.out (coC_one rfl rfl) ?_
             intro w6 bz6 bu6
             rw [put_all _ _ (by rw [coC_len HPR.out.1 HPR.out.2]; rfl)] at bz6))
        refine bodyPost_ret (results_blk2 Try.results12 rfl rfl bz6 Try.underlying30 rfl IC1.out) rfl ?_
        exact ⟨_, rfl, fun S hS => ((HX2.out ((w.heap.size + 2) :: S) (fun b hb => (List.mem_cons.1 hb).elim (fun h => by omega) (fun h => by have := hS b h; omega))).but bu6 (by simp)).less (fun b hb => List.mem_cons_of_mem _ hb), f2.trans (below_but bu6 (by omega) f2.size)⟩
      · have t2 : (c.txs.length : Int) < n := by omega
        go_wp2_with (first
          | (refine wpl_load_fld (by rfl) _ _ rfl w.heap.size 0 rfl (coC (.slice (some ⟨T, 0, none⟩) c.txs.length c.txs.length) (.slice A nC cC) c) _ bp2.range Try.underlying30 rfl IC1.out ?_)
          | (refine wpl_store_fld (by rfl) _ _ _ rfl (w.heap.size + 2) 0 _ _ (coC (.slice (some ⟨T, 0, none⟩) c.txs.length c.txs.length) (.slice A nC cC) c) rfl _ rfl rfl bz2 (by rw [coC_len HPR.out.1 HPR.out.2]; exact Nat.le_refl _) IC1.out (coC_one rfl rfl) ?_
             intro w6 bz6 bu6
             rw [put_all _ _ (by rw [coC_len HPR.out.1 HPR.out.2]; rfl)] at bz6))
        refine bodyPost_ret (results_blk2 Try.results12 rfl rfl bz6 Try.underlying30 rfl IC1.out) rfl ?_
        exact ⟨_, rfl, fun S hS => ((HX2.out ((w.heap.size + 2) :: S) (fun b hb => (List.mem_cons.1 hb).elim (fun h => by omega) (fun h => by have := hS b h; omega))).but bu6 (by simp)).less (fun b hb => List.mem_cons_of_mem _ hb), f2.trans (below_but bu6 (by omega) f2.size)⟩
  · refine (party_no _ w2 hp).mono ?_
    rintro e w' ⟨rfl, rfl⟩
    obtain rfl : r = (c, 1) := by
      rcases HR.out with h | h | h
      · exact h.2
      · exact absurd h.1 hp
      · exact absurd h.1 hp
    go_wp2_with (first
      | (refine wpl_load_fld (by rfl) _ _ rfl w.heap.size 0 rfl (coC (.slice (some ⟨T, 0, none⟩) c.txs.length c.txs.length) (.slice A nC cC) c) _ bp2.range Try.underlying30 rfl IC1.out ?_)
      | (refine wpl_store_fld (by rfl) _ _ _ rfl (w.heap.size + 2) 0 _ _ (coC (.slice (some ⟨T, 0, none⟩) c.txs.length c.txs.length) (.slice A nC cC) c) rfl _ rfl rfl bz2 (by rw [coC_len HPR.out.1 HPR.out.2]; exact Nat.le_refl _) IC1.out (coC_one rfl rfl) ?_
         intro w6 bz6 bu6
         rw [put_all _ _ (by rw [coC_len HPR.out.1 HPR.out.2]; rfl)] at bz6))
    refine bodyPost_ret (results_blk2 Try.results12 rfl rfl bz6 Try.underlying30 rfl IC1.out) rfl ?_
    exact ⟨_, rfl, fun S hS => ((HX2.out ((w.heap.size + 2) :: S) (fun b hb => (List.mem_cons.1 hb).elim (fun h => by omega) (fun h => by have := hS b h; omega))).but bu6 (by simp)).less (fun b hb => List.mem_cons_of_mem _ hb), f2.trans (below_but bu6 (by omega) f2.size)⟩
end Go.Proofs.Ytgljcfemindgoaa
