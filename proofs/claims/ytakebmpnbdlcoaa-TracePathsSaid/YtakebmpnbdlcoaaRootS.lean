/- The walk of the document's root of a tree. -/
import Derived.Test.YtakebmpnbdlcoaaRootR
import Derived.Test.YtakebmpnbdlcoaaHashes
import Derived.Test.YtakebmpnbdlcoaaEqS
set_option linter.unusedSimpArgs false
set_option linter.unusedVariables false
namespace Go.Proofs.Ytakebmpnbdlcoaa
open Go.RowKit
set_option maxRecDepth 100000
/-- one level up -/
def halve (l : List (List UInt8)) : List (List UInt8) := (List.range (l.length / 2)).map fun i => overS (l.getD (2 * i) zero32) (l.getD (2 * i + 1) zero32)
/-- the top, so many levels up -/
def rootJ : Nat → List (List UInt8) → List UInt8
  | 0, l => l.getD 0 zero32
  | j + 1, l => rootJ j (halve l)
theorem halve_len (l : List (List UInt8)) : (halve l).length = l.length / 2 := by simp [halve]
theorem halve_all (l : List (List UInt8)) : ∀ x ∈ halve l, x.length = 32 := by
  intro x hx
  obtain ⟨i, _, rfl⟩ := List.mem_map.1 hx
  exact overS_len _ _
/-- the level, half way -/
def part_ (l : List (List UInt8)) (i : Nat) : List (List UInt8) := (halve l).take i ++ l.drop i
theorem part_zero (l : List (List UInt8)) : part_ l 0 = l := by simp [part_]
theorem part_len (l : List (List UInt8)) (i : Nat) (h : i ≤ l.length / 2) : (part_ l i).length = l.length := by
  simp [part_, halve_len]
  omega
theorem part_get (l : List (List UInt8)) (i k : Nat) (hi : i ≤ l.length / 2) (hk : i ≤ k) : (part_ l i)[k]? = l[k]? := by
  unfold part_
  have e : ((halve l).take i).length = i := by rw [List.length_take, halve_len]; omega
  rw [List.getElem?_append_right (by omega), e, List.getElem?_drop]
  congr 1
  omega
theorem part_all (l : List (List UInt8)) (hl : ∀ x ∈ l, x.length = 32) (i : Nat) : ∀ x ∈ part_ l i, x.length = 32 := by
  intro x hx
  rcases List.mem_append.1 hx with h | h
  · exact halve_all l x (List.mem_of_mem_take h)
  · exact hl x (List.mem_of_mem_drop h)
theorem part_next (l : List (List UInt8)) (i : Nat) (hi : i < l.length / 2) (x y : List UInt8) (hx : l[2 * i]? = some x) (hy : l[2 * i + 1]? = some y) : part_ l (i + 1) = (part_ l i).set i (overS x y) := by
  have e : ((halve l).take i).length = i := by rw [List.length_take, halve_len]; omega
  have hh : (halve l)[i]? = some (overS x y) := by
    unfold halve
    rw [List.getElem?_map, List.getElem?_range hi]
    simp [List.getD, hx, hy]
  unfold part_
  rw [List.set_append_right _ _ (by omega), e, List.take_add_one, hh, List.append_assoc]
  congr 1
  have hlt : i < l.length := by omega
  simp only [Nat.sub_self]
  rw [show l.drop i = l[i] :: l.drop (i + 1) from List.drop_eq_getElem_cons hlt]
  rfl
theorem part_end (l : List (List UInt8)) : part_ l (l.length / 2) = halve l ++ l.drop (l.length / 2) := by
  unfold part_
  rw [List.take_of_length_le (by rw [halve_len]; exact Nat.le_refl _)]
theorem H8_app (a b : List (List UInt8)) : H8 (a ++ b) = H8 a ++ H8 b := by simp [H8]
theorem put_H8 (l : List (List UInt8)) (rest : List Value) (i : Nat) (x : List UInt8) (hl : ∀ y ∈ l, y.length = 32) (hx : x.length = 32) (hi : i < l.length) : put_ (H8 l ++ rest) (i * 32) (B8 x) = H8 (l.set i x) ++ rest := by
  have e1 : l = l.take i ++ [l[i]] ++ l.drop (i + 1) := by simp
  have h0 := hl l[i] (List.getElem_mem hi)
  have e2 : H8 l ++ rest = H8 (l.take i) ++ B8 l[i] ++ (H8 (l.drop (i + 1)) ++ rest) := by
    conv => lhs; rw [e1]
    rw [H8_app, H8_app]
    simp [H8]
  have e3 : (H8 (l.take i)).length = i * 32 := by
    have := H8_len (l.take i) (fun y hy => hl y (List.mem_of_mem_take hy))
    rw [List.length_take] at this
    omega
  have := put_mid (H8 (l.take i)) (B8 l[i]) (H8 (l.drop (i + 1)) ++ rest) (B8 x) (by rw [B8_len, B8_len, h0, hx])
  rw [e3] at this
  rw [e2, this, List.set_eq_take_append_cons_drop, if_pos hi, H8_app]
  simp [H8]
theorem H8_at_ : ∀ (hs : List (List UInt8)) (_ : ∀ h ∈ hs, h.length = 32) (rest : List Value) (i : Nat) (h : List UInt8) (_ : hs[i]? = some h), ((H8 hs ++ rest).drop (i * 32)).take (B8 h).length = B8 h := by
  intro hs hl rest i h hi
  obtain ⟨hlt, hq⟩ := List.getElem?_eq_some_iff.1 hi
  have e1 : hs = hs.take i ++ [h] ++ hs.drop (i + 1) := by rw [← hq]; simp
  have e3 : (H8 (hs.take i)).length = i * 32 := by
    have := H8_len (hs.take i) (fun y hy => hl y (List.mem_of_mem_take hy))
    rw [List.length_take] at this
    omega
  have e2 : H8 hs ++ rest = H8 (hs.take i) ++ (B8 h ++ (H8 (hs.drop (i + 1)) ++ rest)) := by
    conv => lhs; rw [e1]
    rw [H8_app, H8_app]
    simp [H8]
  rw [e2, ← e3, List.drop_left, List.take_left]
theorem own_row {w : World} {B : Nat} {e : TypeId} {size n c : Nat} {A : Option Addr} {xs : List Value} (h : Own w B e size A n c xs) (hn : 0 < n) : ∃ g rest, A = some ⟨g, 0, none⟩ ∧ B ≤ g ∧ Blk w g e (xs ++ rest) ∧ (xs ++ rest).length = c * size := by
  rcases h.2 with ⟨hv, _⟩ | ⟨g, cap, cur, hv, hB, hg, h1, h2, h3, h4⟩
  · injection hv; subst_vars; omega
  · injection hv with h5 h6 h7
    subst h5
    subst h7
    have e1 : cur.toList.take (n * size) ++ cur.toList.drop (n * size) = cur.toList := List.take_append_drop _ _
    refine ⟨g, cur.toList.drop (n * size), rfl, hB, ?_, ?_⟩
    · unfold Blk
      rw [← h4, e1]
      exact hg
    · rw [← h4, e1]
      simpa using h3
theorem rep_get (m : Nat) (u : Value) (k : Nat) (h : k < m) : ((List.replicate m u).toArray)[k]! = u := by simp [h]
theorem rep_made (n : Nat) : (madeCells (Value.agg #[.int .u8 0, .int .u8 0, .int .u8 0, .int .u8 0, .int .u8 0, .int .u8 0, .int .u8 0, .int .u8 0, .int .u8 0, .int .u8 0, .int .u8 0, .int .u8 0, .int .u8 0, .int .u8 0, .int .u8 0, .int .u8 0, .int .u8 0, .int .u8 0, .int .u8 0, .int .u8 0, .int .u8 0, .int .u8 0, .int .u8 0, .int .u8 0, .int .u8 0, .int .u8 0, .int .u8 0, .int .u8 0, .int .u8 0, .int .u8 0, .int .u8 0, .int .u8 0]).cells (n * 32)).toList = H8 (List.replicate n zero32) := by
  have e1 : (madeCells (Value.agg #[.int .u8 0, .int .u8 0, .int .u8 0, .int .u8 0, .int .u8 0, .int .u8 0, .int .u8 0, .int .u8 0, .int .u8 0, .int .u8 0, .int .u8 0, .int .u8 0, .int .u8 0, .int .u8 0, .int .u8 0, .int .u8 0, .int .u8 0, .int .u8 0, .int .u8 0, .int .u8 0, .int .u8 0, .int .u8 0, .int .u8 0, .int .u8 0, .int .u8 0, .int .u8 0, .int .u8 0, .int .u8 0, .int .u8 0, .int .u8 0, .int .u8 0, .int .u8 0]).cells (n * 32)).toList = List.replicate (n * 32) (Value.int .u8 0) := by
    refine List.ext_getElem? fun k => ?_
    unfold madeCells
    simp only [Array.toList_map, Array.toList_range, List.getElem?_map, List.getElem?_replicate]
    by_cases hk : k < n * 32
    · rw [List.getElem?_range hk, if_pos hk]
      have h32 : k % 32 < 32 := Nat.mod_lt _ (by decide)
      have key : (Value.agg #[.int .u8 0, .int .u8 0, .int .u8 0, .int .u8 0, .int .u8 0, .int .u8 0, .int .u8 0, .int .u8 0, .int .u8 0, .int .u8 0, .int .u8 0, .int .u8 0, .int .u8 0, .int .u8 0, .int .u8 0, .int .u8 0, .int .u8 0, .int .u8 0, .int .u8 0, .int .u8 0, .int .u8 0, .int .u8 0, .int .u8 0, .int .u8 0, .int .u8 0, .int .u8 0, .int .u8 0, .int .u8 0, .int .u8 0, .int .u8 0, .int .u8 0, .int .u8 0]).cells = (List.replicate 32 (Value.int .u8 0)).toArray := rfl
      have hsz : (Value.agg #[.int .u8 0, .int .u8 0, .int .u8 0, .int .u8 0, .int .u8 0, .int .u8 0, .int .u8 0, .int .u8 0, .int .u8 0, .int .u8 0, .int .u8 0, .int .u8 0, .int .u8 0, .int .u8 0, .int .u8 0, .int .u8 0, .int .u8 0, .int .u8 0, .int .u8 0, .int .u8 0, .int .u8 0, .int .u8 0, .int .u8 0, .int .u8 0, .int .u8 0, .int .u8 0, .int .u8 0, .int .u8 0, .int .u8 0, .int .u8 0, .int .u8 0, .int .u8 0]).cells.size = 32 := rfl
      simp only [Option.map_some, hsz]
      rw [key]
      congr 1
      exact rep_get 32 _ _ h32
    · rw [if_neg hk, List.getElem?_eq_none (by simp; omega)]
      rfl
  rw [e1]
  clear e1
  induction n with
  | zero => rfl
  | succ n ih =>
    rw [List.replicate_succ', H8_snoc, ← ih, Nat.succ_mul, ← List.replicate_append_replicate]
    rfl
set_option maxRecDepth 100000 in
set_option maxHeartbeats 1000000 in
theorem leaves_nil (w : World) : Calls Try.prog 47 #[.slice none 0 0] w (RSl w 27 32 (H8 (List.replicate 256 zero32))) := by
  obtain ⟨i, hi, hz0, hz1, hz2⟩ := info_parts (P := Try.prog) (e := 27) (z := .agg #[.int .u8 0, .int .u8 0, .int .u8 0, .int .u8 0, .int .u8 0, .int .u8 0, .int .u8 0, .int .u8 0, .int .u8 0, .int .u8 0, .int .u8 0, .int .u8 0, .int .u8 0, .int .u8 0, .int .u8 0, .int .u8 0, .int .u8 0, .int .u8 0, .int .u8 0, .int .u8 0, .int .u8 0, .int .u8 0, .int .u8 0, .int .u8 0, .int .u8 0, .int .u8 0, .int .u8 0, .int .u8 0, .int .u8 0, .int .u8 0, .int .u8 0, .int .u8 0]) (size := 32) (bytes := 32) (by kernel_rfl)
  have hi' := Lib.hid hi
  have hz0' := Lib.hid hz0
  have hz1' := Lib.hid hz1
  have hz2' := Lib.hid hz2
  clear hi hz0 hz1 hz2
  go_enter Try.func47, Try.ntmps47
  go_wp2_with (first
    | (at_make
       refine wpList_make_full _ rfl _ _ _ rfl w.heap.size _ i _ 32 Try.underlying52 hi'.out hz0'.out hz1'.out _ _ 256 256 256 rfl rfl rfl rfl (by rw [hz2'.out]; decide) (by decide) (Nat.le_refl _) ?_
       intro w1 ho1 hg1))
  rw [rep_made] at ho1
  have ho : Own w1 w.heap.size 27 32 (some ⟨w.heap.size, 0, none⟩) 256 256 (H8 (List.replicate 256 zero32)) := ho1
  have hb : Below w.heap.size w w1 := ⟨hg1.os, hg1.tape, hg1.output, hg1.size, fun k hk => hg1.block k hk (by simp)⟩
  clear ho1 hg1 hi' hz0' hz1' hz2'
  go_loopw [4] (fun i wr => i = .int .i64 ((0 : Nat) : Int) ∧ wr = w1) (fun _ _ => 0)
  case atStart => exact ⟨rfl, rfl⟩
  case round =>
    obtain ⟨rfl, rfl⟩ := hrel
    go_wp2_with fail
    go_ret
    exact RSl.mk ho hb
/-- the table's row of sums -/
theorem info_h : (Try.prog.info? 27).map (·.size) = some 32 := by kernel_rfl
set_option maxRecDepth 100000 in
set_option maxHeartbeats 2000000 in
theorem refRoot_of (v : Value) (ls : List (List UInt8)) (hl : ls.length = 256) (hall : ∀ x ∈ ls, x.length = 32) (w : World) (HL : ∀ W, Below w.heap.size w W → Calls Try.prog 47 #[v] W (RSl W 27 32 (H8 ls))) :
    Calls Try.prog 22 #[v] w fun e w' => e = .returned (hv (rootJ 8 ls)) ∧ Below w.heap.size w w' := by
  obtain ⟨W, HW, hbw, bz⟩ : ∃ W, Hid (W = w.alloc (.cells #[.int .u8 0, .int .u8 0, .int .u8 0, .int .u8 0, .int .u8 0, .int .u8 0, .int .u8 0, .int .u8 0, .int .u8 0, .int .u8 0, .int .u8 0, .int .u8 0, .int .u8 0, .int .u8 0, .int .u8 0, .int .u8 0, .int .u8 0, .int .u8 0, .int .u8 0, .int .u8 0, .int .u8 0, .int .u8 0, .int .u8 0, .int .u8 0, .int .u8 0, .int .u8 0, .int .u8 0, .int .u8 0, .int .u8 0, .int .u8 0, .int .u8 0, .int .u8 0] 27)) ∧ Below w.heap.size w W ∧ Blk W w.heap.size 27 (B8 zero32) :=
    ⟨_, rfl, (Below.refl _ _).alloc (Nat.le_refl _) _, Blk.new w #[.int .u8 0, .int .u8 0, .int .u8 0, .int .u8 0, .int .u8 0, .int .u8 0, .int .u8 0, .int .u8 0, .int .u8 0, .int .u8 0, .int .u8 0, .int .u8 0, .int .u8 0, .int .u8 0, .int .u8 0, .int .u8 0, .int .u8 0, .int .u8 0, .int .u8 0, .int .u8 0, .int .u8 0, .int .u8 0, .int .u8 0, .int .u8 0, .int .u8 0, .int .u8 0, .int .u8 0, .int .u8 0, .int .u8 0, .int .u8 0, .int .u8 0, .int .u8 0] 27⟩
  have H := Lib.hid (HL W hbw)
  have HL8 := Lib.hid hl
  have HAL := Lib.hid hall
  clear HL hl hall
  go_enter Try.func22, Try.ntmps22
  go_upto_region 1 with fail
  refine wp_at HW.out ?_
  clear HW
  go_wp2_with fail
  refine H.out.mono ?_
  rintro e w1 ⟨A1, n1, c1, rfl, ho1, hb1⟩
  obtain rfl : 256 = n1 := by
    have h1 := ho1.len
    have h2 := H8_len ls HAL.out
    rw [HL8.out] at h2
    omega
  obtain ⟨g, rest, rfl, hg, bk, hlen⟩ := own_row ho1 (by decide)
  have hc := ho1.le
  have bz1 := bz.to hb1
  have f1 := hbw.trans (hb1.mono hbw.size)
  have hgz : w.heap.size < g := Nat.lt_of_lt_of_le bz.lt hg
  clear bz hb1 hbw ho1 H hg
  go_wp2_with fail
  go_loopw [3, 4] (fun l _ wr => ∃ (j L : Nat) (cur : List (List UInt8)) (rest : List Value), L = 2 ^ j ∧ j ≤ 8 ∧ l = .slice (some ⟨g, 0, none⟩) L c1 ∧ cur.length = L ∧ (∀ x ∈ cur, x.length = 32) ∧ rootJ 8 ls = rootJ j cur ∧ Blk wr g 27 (H8 cur ++ rest) ∧ Blk wr w.heap.size 27 (B8 zero32) ∧ Below w.heap.size w wr) (fun l _ _ => match l with | .slice _ n _ => n | _ => 0)
  case atStart => exact ⟨8, 256, ls, rest, rfl, by omega, rfl, HL8.out, HAL.out, rfl, bk, bz1, f1⟩
  case round =>
    clear bk bz1 f1
    obtain ⟨j, L, cur, rest, hL, hj, rfl, hcl, hca, hroot, bk, bz, hf⟩ := hrel
    have HLj := Lib.hid hL
    have HCL := Lib.hid hcl
    have HCA := Lib.hid hca
    have HR := Lib.hid hroot
    clear hL hcl hca hroot
    have hL1 : 1 ≤ L := by rw [HLj.out]; exact Nat.one_le_two_pow
    have hL256 : L ≤ 256 := by rw [HLj.out]; exact Nat.pow_le_pow_right (by decide) hj
    by_cases h1 : 1 < L
    · obtain ⟨j', rfl⟩ : ∃ j', j = j' + 1 := ⟨j - 1, by
        rcases j with _ | j
        · have := HLj.out; omega
        · omega⟩
      obtain ⟨M, hM⟩ : ∃ M, M = 2 ^ j' := ⟨_, rfl⟩
      have hLM : L = 2 * M := by rw [HLj.out, hM, Nat.pow_succ]; omega
      have HM := Lib.hid hM
      have u1 : ((L : Nat) : Int) / 2 = (M : Int) := by omega
      have hh : cur.length / 2 = M := by rw [HCL.out]; omega
      have HH := Lib.hid hh
      have tb : decide ((1 : Int) < (L : Int)) = true := by simp; omega
      have l2 : 2 * M ≤ L := by omega
      have l3 : L ≤ 2 * M := by omega
      clear hM hh hLM
      go_wp2_with fail
      obtain ⟨wo, rfl⟩ : ∃ wo : World, wo = wr := ⟨_, rfl⟩
      go_loopw [4] (fun i wr => ∃ i' : Nat, i = .int .i64 i' ∧ i' ≤ M ∧ Blk wr g 27 (H8 (part_ cur i') ++ rest) ∧ Blk wr w.heap.size 27 (B8 zero32) ∧ Below w.heap.size w wr) (fun i _ => M - (intOf i).toNat)
      case atStart => exact ⟨0, rfl, Nat.zero_le _, by rw [part_zero]; exact bk, bz, hf⟩
      case round =>
        clear bk bz hf
        obtain ⟨i, rfl, hi, bk, bz, hf⟩ := hrel
        by_cases hlt : i < M
        · obtain ⟨x, hx⟩ : ∃ x, cur[2 * i]? = some x := ⟨_, List.getElem?_eq_getElem (by rw [HCL.out]; omega)⟩
          obtain ⟨y, hy⟩ : ∃ y, cur[2 * i + 1]? = some y := ⟨_, List.getElem?_eq_getElem (by rw [HCL.out]; omega)⟩
          have xl := HCA.out x (List.mem_of_getElem? hx)
          have yl := HCA.out y (List.mem_of_getElem? hy)
          have pa := part_all cur HCA.out i
          have px : (part_ cur i)[2 * i]? = some x := by rw [part_get cur i (2 * i) (by rw [HH.out]; omega) (by omega)]; exact hx
          have py : (part_ cur i)[2 * i + 1]? = some y := by rw [part_get cur i (2 * i + 1) (by rw [HH.out]; omega) (by omega)]; exact hy
          have pl := part_len cur i (by rw [HH.out]; omega)
          rw [HCL.out] at pl
          have hp := put_H8 (part_ cur i) rest i (overS x y) pa (overS_len x y) (by rw [pl]; omega)
          rw [← part_next cur i (by rw [HH.out]; omega) x y hx hy] at hp
          have rx := (show Blk wr.drew g 27 (H8 (part_ cur i) ++ rest) from bk).sub (2 * i * 32) (B8 x) (H8_at_ _ pa rest (2 * i) x px)
          have ry := (show Blk wr.drew g 27 (H8 (part_ cur i) ++ rest) from bk).sub ((2 * i + 1) * 32) (B8 y) (H8_at_ _ pa rest (2 * i + 1) y py)
          have hlen : (i * 32 + 32 ≤ (H8 (part_ cur i) ++ rest).length) := by
            have := H8_len _ pa
            rw [pl] at this
            rw [List.length_append]
            omega
          have HP := Lib.hid hp
          have HLEN := Lib.hid hlen
          have XL := Lib.hid xl
          have YL := Lib.hid yl
          clear hx hy pa px py pl hp hlen xl yl
          have t1 : (i : Int) < (M : Int) := by omega
          have k1 : IntKind.i64.wrap (2 * (i : Int)) = 2 * (i : Int) := IntWalk.i64_in _ (by omega)
          have k2 : IntKind.i64.wrap (2 * (i : Int) + 1) = 2 * (i : Int) + 1 := IntWalk.i64_in _ (by omega)
          have k3 : 0 ≤ 2 * (i : Int) := by omega
          have k4 : 2 * (i : Int) < (L : Int) := by omega
          have k5 : 0 ≤ 2 * (i : Int) + 1 := by omega
          have k6 : 2 * (i : Int) + 1 < (L : Int) := by omega
          have k7 : (2 * (i : Int)).toNat = 2 * i := by omega
          have k8 : (2 * (i : Int) + 1).toNat = 2 * i + 1 := by omega
          have k9 : (i : Int) < (L : Int) := by omega
          go_wp2_with fail
          refine wp_region_T [0, 1, 2, 3, 4, 5, 7, 8, 9, 10, 11] 6 12 [(12, false), (13, false), (14, false), (15, false)] [(6, false), (13, false), (14, false), (15, false)] (fun _ _ => True) (by kernel_rfl) (by kernel_rfl) (by kernel_rfl) (by decide) (by decide) (fun _ => trivial) (fun _ _ _ _ _ => trivial) (by intro d v c a w h; cases d <;> exact h) ?_
          repeat (first | (refine wpT_quiet (v := ?_) rfl (by rfl) ?_ ?_; rotate_left; (· (intro w' hw'; go_simp; try with_reducible rfl)); simp only [Act.put, List.setIfInBounds_toArray, List.set_cons_zero, List.set_cons_succ]) | (refine wpT_skip rfl (by rfl) ?_; simp only [Act.put, List.setIfInBounds_toArray, List.set_cons_zero, List.set_cons_succ]))
          refine wpT_nil ?_ ?_
          · refine wpC_load_f (fun _ => trivial) rfl (by rfl) _ _ rfl g (2 * i * 32) rfl (B8 x) _ rx Try.underlying27 rfl (info_hash XL.out) ?_
            simp only [Act.put, List.setIfInBounds_toArray, List.set_cons_zero, List.set_cons_succ]
            refine wpC_load_f (fun _ => trivial) rfl (by rfl) _ _ rfl g ((2 * i + 1) * 32) rfl (B8 y) _ ry Try.underlying27 rfl (info_hash YL.out) ?_
            simp only [Act.put, List.setIfInBounds_toArray, List.set_cons_zero, List.set_cons_succ]
            clear rx ry
            (refine wpC_loud rfl (by rfl) ?_; intro K hK; go_simp)
            refine (refOver_any x y XL.out YL.out _).mono ?_
            rintro e w2 ⟨rfl, hb2⟩
            (refine hK.out _ _ (trivial) ?_; clear hK K; try simp only [Act.put, List.setIfInBounds_toArray, List.set_cons_zero, List.set_cons_succ])
            unfold hv
            have bk2 := Blk.to (w := wr.drew) bk hb2
            have bz2 := Blk.to (w := wr.drew) bz hb2
            have f2 := hf.drew.trans (hb2.mono hf.drew.size)
            repeat (first | (refine wpC_quiet (v := ?_) rfl (by rfl) ?_ ?_; rotate_left; (· (intro w' hw'; go_simp; try with_reducible rfl)); simp only [Act.put, List.setIfInBounds_toArray, List.set_cons_zero, List.set_cons_succ]) | (refine wpC_val (v := ?_) (fun _ => trivial) rfl (by rfl) ?_ ?_; rotate_left; (· (go_simp; try with_reducible rfl)); simp only [Act.put, List.setIfInBounds_toArray, List.set_cons_zero, List.set_cons_succ]) | (refine wpC_skip rfl (by rfl) ?_; simp only [Act.put, List.setIfInBounds_toArray, List.set_cons_zero, List.set_cons_succ]) | (refine wpC_skip' (fun _ => trivial) rfl (by rfl) ?_; simp only [Act.put, List.setIfInBounds_toArray, List.set_cons_zero, List.set_cons_succ]))
            refine wpC_store_fld rfl (by rfl) _ _ _ rfl g (i * 32) _ _ (B8 (overS x y)) rfl _ rfl rfl bk2 (by rw [B8_len, overS_len]; exact HLEN.out) (info_hash (overS_len x y)) (B8_one _) (fun _ _ => trivial) ?_
            intro w3 bk3 bu3
            rw [HP.out] at bk3
            have bz3 := bz2.but bu3 (by simp; omega)
            have f3 := f2.trans (below_but bu3 (by omega) f2.size)
            clear bk bz hf hb2 bk2 bz2 f2 bu3 k1 k2 k3 k4 k5 k6 k7 k8 k9
            simp only [Act.put, List.setIfInBounds_toArray, List.set_cons_zero, List.set_cons_succ]
            refine wpC_nil ?_
            go_wp2_with fail
            go_roundw
            case rel => exact ⟨i + 1, by go_num, by omega, bk3, bz3, f3⟩
            case measure => simp [intOf]; omega
          · refine wpC_load_f (fun _ => trivial) rfl (by rfl) _ _ rfl g ((2 * i + 1) * 32) rfl (B8 y) _ ry Try.underlying27 rfl (info_hash YL.out) ?_
            simp only [Act.put, List.setIfInBounds_toArray, List.set_cons_zero, List.set_cons_succ]
            refine wpC_load_f (fun _ => trivial) rfl (by rfl) _ _ rfl g (2 * i * 32) rfl (B8 x) _ rx Try.underlying27 rfl (info_hash XL.out) ?_
            simp only [Act.put, List.setIfInBounds_toArray, List.set_cons_zero, List.set_cons_succ]
            clear rx ry
            (refine wpC_loud rfl (by rfl) ?_; intro K hK; go_simp)
            refine (refOver_any x y XL.out YL.out _).mono ?_
            rintro e w2 ⟨rfl, hb2⟩
            (refine hK.out _ _ (trivial) ?_; clear hK K; try simp only [Act.put, List.setIfInBounds_toArray, List.set_cons_zero, List.set_cons_succ])
            unfold hv
            have bk2 := Blk.to (w := wr.drew) bk hb2
            have bz2 := Blk.to (w := wr.drew) bz hb2
            have f2 := hf.drew.trans (hb2.mono hf.drew.size)
            repeat (first | (refine wpC_quiet (v := ?_) rfl (by rfl) ?_ ?_; rotate_left; (· (intro w' hw'; go_simp; try with_reducible rfl)); simp only [Act.put, List.setIfInBounds_toArray, List.set_cons_zero, List.set_cons_succ]) | (refine wpC_val (v := ?_) (fun _ => trivial) rfl (by rfl) ?_ ?_; rotate_left; (· (go_simp; try with_reducible rfl)); simp only [Act.put, List.setIfInBounds_toArray, List.set_cons_zero, List.set_cons_succ]) | (refine wpC_skip rfl (by rfl) ?_; simp only [Act.put, List.setIfInBounds_toArray, List.set_cons_zero, List.set_cons_succ]) | (refine wpC_skip' (fun _ => trivial) rfl (by rfl) ?_; simp only [Act.put, List.setIfInBounds_toArray, List.set_cons_zero, List.set_cons_succ]))
            refine wpC_store_fld rfl (by rfl) _ _ _ rfl g (i * 32) _ _ (B8 (overS x y)) rfl _ rfl rfl bk2 (by rw [B8_len, overS_len]; exact HLEN.out) (info_hash (overS_len x y)) (B8_one _) (fun _ _ => trivial) ?_
            intro w3 bk3 bu3
            rw [HP.out] at bk3
            have bz3 := bz2.but bu3 (by simp; omega)
            have f3 := f2.trans (below_but bu3 (by omega) f2.size)
            clear bk bz hf hb2 bk2 bz2 f2 bu3 k1 k2 k3 k4 k5 k6 k7 k8 k9
            simp only [Act.put, List.setIfInBounds_toArray, List.set_cons_zero, List.set_cons_succ]
            refine wpC_nil ?_
            go_wp2_with fail
            go_roundw
            case rel => exact ⟨i + 1, by go_num, by omega, bk3, bz3, f3⟩
            case measure => simp [intOf]; omega
        · obtain rfl : M = i := by omega
          have hpe := part_end cur
          rw [HH.out] at hpe
          rw [hpe, H8_app, List.append_assoc] at bk
          have hroot : rootJ 8 ls = rootJ j' (halve cur) := HR.out
          have HRO := Lib.hid hroot
          have hhl := halve_len cur
          rw [HH.out] at hhl
          have HHL := Lib.hid hhl
          clear hpe hroot hhl
          go_wp2_with fail
          go_roundw
          case rel => exact ⟨j', M, halve cur, _, HM.out, by omega, rfl, HHL.out, halve_all cur, HRO.out, bk, bz, hf⟩
          case measure => show M < L; omega
    · obtain rfl : 1 = L := by omega
      obtain rfl : j = 0 := by
        rcases j with _ | j
        · rfl
        · have := HLj.out; have := Nat.one_le_two_pow (n := j); rw [Nat.pow_succ] at *; omega
      have hx : ∃ x, cur = [x] := by
        have := HCL.out
        rcases cur with _ | ⟨x, _ | ⟨y, cur⟩⟩
        · simp at this
        · exact ⟨x, rfl⟩
        · simp at this
      obtain ⟨x, rfl⟩ := hx
      have xl := HCA.out x (by simp)
      have rx := bk.sub 0 (B8 x) (by simp [H8])
      have HX := Lib.hid xl
      have IX := Lib.hid (info_hash xl)
      clear xl
      go_wp2_with (first
        | (refine wpl_load_fld (by rfl) _ _ rfl g 0 rfl (B8 x) _ rx Try.underlying27 rfl IX.out ?_)
        | (refine wpl_store_fld (by rfl) _ _ _ rfl w.heap.size 0 _ _ (B8 x) rfl _ rfl rfl bz (by rw [B8_len, HX.out]; exact Nat.le_refl _) IX.out (B8_one _) ?_
           intro w2 bz2 bu2
           rw [put_all _ _ (by rw [B8_len, HX.out]; rfl)] at bz2))
      refine bodyPost_ret (v := .agg (B8 (rootJ 8 ls)).toArray) ?_ rfl ⟨rfl, hf.trans (below_but bu2 (Nat.le_refl _) hf.size)⟩
      rw [HR.out]
      exact results_blk Try.results22 rfl bz2 Try.underlying27 rfl IX.out
end Go.Proofs.Ytakebmpnbdlcoaa
