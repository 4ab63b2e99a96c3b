/- The texts of this claim, part F: words, plain laws, walks. -/
import Derived.Test.YtdopgooglicaiaaPartE
import Derived.Test.YtdopgooglicaiaaPartB
import Derived.Laws.CopyOwn
import Derived.Test.YtdopgooglicaiaaPartC
import Derived.Test.YtdopgooglicaiaaPartA
import Derived.Deep.MidRow
/- The walk of the document's root of a tree. -/
set_option linter.unusedSimpArgs false
set_option linter.unusedVariables false
namespace Go.Proofs.Ytdopgooglicaiaa
open Go.RowKit
set_option maxRecDepth 100000
/-- one level up -/
def halve (l : List (List UInt8)) : List (List UInt8) := (List.range (l.length / 2)).map fun i => overS (l.getD (2 * i) zero32) (l.getD (2 * i + 1) zero32)
/-- the top, so many levels up -/
def rootJ : Nat → List (List UInt8) → List UInt8
  | 0, l => l.getD 0 zero32
  | j + 1, l => rootJ j (halve l)
theorem halve_len (l : List (List UInt8)) : (halve l).length = l.length / 2 := by simp [halve]
theorem halve_all (l : List (List UInt8)) : ∀ x ∈ halve l, x.length = 32 := by
  intro x hx
  obtain ⟨i, _, rfl⟩ := List.mem_map.1 hx
  exact overS_len _ _
/-- the level, half way -/
def part_ (l : List (List UInt8)) (i : Nat) : List (List UInt8) := (halve l).take i ++ l.drop i
theorem part_zero (l : List (List UInt8)) : part_ l 0 = l := by simp [part_]
theorem part_len (l : List (List UInt8)) (i : Nat) (h : i ≤ l.length / 2) : (part_ l i).length = l.length := by
  simp [part_, halve_len]
  omega
theorem part_get (l : List (List UInt8)) (i k : Nat) (hi : i ≤ l.length / 2) (hk : i ≤ k) : (part_ l i)[k]? = l[k]? := by
  unfold part_
  have e : ((halve l).take i).length = i := by rw [List.length_take, halve_len]; omega
  rw [List.getElem?_append_right (by omega), e, List.getElem?_drop]
  congr 1
  omega
theorem part_all (l : List (List UInt8)) (hl : ∀ x ∈ l, x.length = 32) (i : Nat) : ∀ x ∈ part_ l i, x.length = 32 := by
  intro x hx
  rcases List.mem_append.1 hx with h | h
  · exact halve_all l x (List.mem_of_mem_take h)
  · exact hl x (List.mem_of_mem_drop h)
theorem part_next (l : List (List UInt8)) (i : Nat) (hi : i < l.length / 2) (x y : List UInt8) (hx : l[2 * i]? = some x) (hy : l[2 * i + 1]? = some y) : part_ l (i + 1) = (part_ l i).set i (overS x y) := by
  have e : ((halve l).take i).length = i := by rw [List.length_take, halve_len]; omega
  have hh : (halve l)[i]? = some (overS x y) := by
    unfold halve
    rw [List.getElem?_map, List.getElem?_range hi]
    simp [List.getD, hx, hy]
  unfold part_
  rw [List.set_append_right _ _ (by omega), e, List.take_add_one, hh, List.append_assoc]
  congr 1
  have hlt : i < l.length := by omega
  simp only [Nat.sub_self]
  rw [show l.drop i = l[i] :: l.drop (i + 1) from List.drop_eq_getElem_cons hlt]
  rfl
theorem part_end (l : List (List UInt8)) : part_ l (l.length / 2) = halve l ++ l.drop (l.length / 2) := by
  unfold part_
  rw [List.take_of_length_le (by rw [halve_len]; exact Nat.le_refl _)]
theorem H8_app (a b : List (List UInt8)) : H8 (a ++ b) = H8 a ++ H8 b := by simp [H8]
theorem put_H8 (l : List (List UInt8)) (rest : List Value) (i : Nat) (x : List UInt8) (hl : ∀ y ∈ l, y.length = 32) (hx : x.length = 32) (hi : i < l.length) : put_ (H8 l ++ rest) (i * 32) (B8 x) = H8 (l.set i x) ++ rest := by
  have e1 : l = l.take i ++ [l[i]] ++ l.drop (i + 1) := by simp
  have h0 := hl l[i] (List.getElem_mem hi)
  have e2 : H8 l ++ rest = H8 (l.take i) ++ B8 l[i] ++ (H8 (l.drop (i + 1)) ++ rest) := by
    conv => lhs; rw [e1]
    rw [H8_app, H8_app]
    simp [H8]
  have e3 : (H8 (l.take i)).length = i * 32 := by
    have := H8_len (l.take i) (fun y hy => hl y (List.mem_of_mem_take hy))
    rw [List.length_take] at this
    omega
  have := put_mid (H8 (l.take i)) (B8 l[i]) (H8 (l.drop (i + 1)) ++ rest) (B8 x) (by rw [B8_len, B8_len, h0, hx])
  rw [e3] at this
  rw [e2, this, List.set_eq_take_append_cons_drop, if_pos hi, H8_app]
  simp [H8]
theorem H8_at_ : ∀ (hs : List (List UInt8)) (_ : ∀ h ∈ hs, h.length = 32) (rest : List Value) (i : Nat) (h : List UInt8) (_ : hs[i]? = some h), ((H8 hs ++ rest).drop (i * 32)).take (B8 h).length = B8 h := by
  intro hs hl rest i h hi
  obtain ⟨hlt, hq⟩ := List.getElem?_eq_some_iff.1 hi
  have e1 : hs = hs.take i ++ [h] ++ hs.drop (i + 1) := by rw [← hq]; simp
  have e3 : (H8 (hs.take i)).length = i * 32 := by
    have := H8_len (hs.take i) (fun y hy => hl y (List.mem_of_mem_take hy))
    rw [List.length_take] at this
    omega
  have e2 : H8 hs ++ rest = H8 (hs.take i) ++ (B8 h ++ (H8 (hs.drop (i + 1)) ++ rest)) := by
    conv => lhs; rw [e1]
    rw [H8_app, H8_app]
    simp [H8]
  rw [e2, ← e3, List.drop_left, List.take_left]
theorem own_row {w : World} {B : Nat} {e : TypeId} {size n c : Nat} {A : Option Addr} {xs : List Value} (h : Own w B e size A n c xs) (hn : 0 < n) : ∃ g rest, A = some ⟨g, 0, none⟩ ∧ B ≤ g ∧ Blk w g e (xs ++ rest) ∧ (xs ++ rest).length = c * size := by
  rcases h.2 with ⟨hv, _⟩ | ⟨g, cap, cur, hv, hB, hg, h1, h2, h3, h4⟩
  · injection hv; subst_vars; omega
  · injection hv with h5 h6 h7
    subst h5
    subst h7
    have e1 : cur.toList.take (n * size) ++ cur.toList.drop (n * size) = cur.toList := List.take_append_drop _ _
    refine ⟨g, cur.toList.drop (n * size), rfl, hB, ?_, ?_⟩
    · unfold Blk
      rw [← h4, e1]
      exact hg
    · rw [← h4, e1]
      simpa using h3
theorem rep_get (m : Nat) (u : Value) (k : Nat) (h : k < m) : ((List.replicate m u).toArray)[k]! = u := by simp [h]
theorem rep_made (n : Nat) : (madeCells (Value.agg #[.int .u8 0, .int .u8 0, .int .u8 0, .int .u8 0, .int .u8 0, .int .u8 0, .int .u8 0, .int .u8 0, .int .u8 0, .int .u8 0, .int .u8 0, .int .u8 0, .int .u8 0, .int .u8 0, .int .u8 0, .int .u8 0, .int .u8 0, .int .u8 0, .int .u8 0, .int .u8 0, .int .u8 0, .int .u8 0, .int .u8 0, .int .u8 0, .int .u8 0, .int .u8 0, .int .u8 0, .int .u8 0, .int .u8 0, .int .u8 0, .int .u8 0, .int .u8 0]).cells (n * 32)).toList = H8 (List.replicate n zero32) := by
  have e1 : (madeCells (Value.agg #[.int .u8 0, .int .u8 0, .int .u8 0, .int .u8 0, .int .u8 0, .int .u8 0, .int .u8 0, .int .u8 0, .int .u8 0, .int .u8 0, .int .u8 0, .int .u8 0, .int .u8 0, .int .u8 0, .int .u8 0, .int .u8 0, .int .u8 0, .int .u8 0, .int .u8 0, .int .u8 0, .int .u8 0, .int .u8 0, .int .u8 0, .int .u8 0, .int .u8 0, .int .u8 0, .int .u8 0, .int .u8 0, .int .u8 0, .int .u8 0, .int .u8 0, .int .u8 0]).cells (n * 32)).toList = List.replicate (n * 32) (Value.int .u8 0) := by
    refine List.ext_getElem? fun k => ?_
    unfold madeCells
    simp only [Array.toList_map, Array.toList_range, List.getElem?_map, List.getElem?_replicate]
    by_cases hk : k < n * 32
    · rw [List.getElem?_range hk, if_pos hk]
      have h32 : k % 32 < 32 := Nat.mod_lt _ (by decide)
      have key : (Value.agg #[.int .u8 0, .int .u8 0, .int .u8 0, .int .u8 0, .int .u8 0, .int .u8 0, .int .u8 0, .int .u8 0, .int .u8 0, .int .u8 0, .int .u8 0, .int .u8 0, .int .u8 0, .int .u8 0, .int .u8 0, .int .u8 0, .int .u8 0, .int .u8 0, .int .u8 0, .int .u8 0, .int .u8 0, .int .u8 0, .int .u8 0, .int .u8 0, .int .u8 0, .int .u8 0, .int .u8 0, .int .u8 0, .int .u8 0, .int .u8 0, .int .u8 0, .int .u8 0]).cells = (List.replicate 32 (Value.int .u8 0)).toArray := rfl
      have hsz : (Value.agg #[.int .u8 0, .int .u8 0, .int .u8 0, .int .u8 0, .int .u8 0, .int .u8 0, .int .u8 0, .int .u8 0, .int .u8 0, .int .u8 0, .int .u8 0, .int .u8 0, .int .u8 0, .int .u8 0, .int .u8 0, .int .u8 0, .int .u8 0, .int .u8 0, .int .u8 0, .int .u8 0, .int .u8 0, .int .u8 0, .int .u8 0, .int .u8 0, .int .u8 0, .int .u8 0, .int .u8 0, .int .u8 0, .int .u8 0, .int .u8 0, .int .u8 0, .int .u8 0]).cells.size = 32 := rfl
      simp only [Option.map_some, hsz]
      rw [key]
      congr 1
      exact rep_get 32 _ _ h32
    · rw [if_neg hk, List.getElem?_eq_none (by simp; omega)]
      rfl
  rw [e1]
  clear e1
  induction n with
  | zero => rfl
  | succ n ih =>
    rw [List.replicate_succ', H8_snoc, ← ih, Nat.succ_mul, ← List.replicate_append_replicate]
    rfl
set_option maxRecDepth 100000 in
set_option maxHeartbeats 1000000 in
theorem leaves_nil (w : World) : Calls Try.prog 52 #[.slice none 0 0] w (RSl w 25 32 (H8 (List.replicate 256 zero32))) := by
  obtain ⟨i, hi, hz0, hz1, hz2⟩ := info_parts (P := Try.prog) (e := 25) (z := .agg #[.int .u8 0, .int .u8 0, .int .u8 0, .int .u8 0, .int .u8 0, .int .u8 0, .int .u8 0, .int .u8 0, .int .u8 0, .int .u8 0, .int .u8 0, .int .u8 0, .int .u8 0, .int .u8 0, .int .u8 0, .int .u8 0, .int .u8 0, .int .u8 0, .int .u8 0, .int .u8 0, .int .u8 0, .int .u8 0, .int .u8 0, .int .u8 0, .int .u8 0, .int .u8 0, .int .u8 0, .int .u8 0, .int .u8 0, .int .u8 0, .int .u8 0, .int .u8 0]) (size := 32) (bytes := 32) (by kernel_rfl)
  have hi' := Lib.hid hi
  have hz0' := Lib.hid hz0
  have hz1' := Lib.hid hz1
  have hz2' := Lib.hid hz2
  clear hi hz0 hz1 hz2
  go_enter Try.func52, Try.ntmps52
  go_wp2_with (first
    | (at_make
       refine wpList_make_full _ rfl _ _ _ rfl w.heap.size _ i _ 32 Try.underlying26 hi'.out hz0'.out hz1'.out _ _ 256 256 256 rfl rfl rfl rfl (by rw [hz2'.out]; decide) (by decide) (Nat.le_refl _) ?_
       intro w1 ho1 hg1))
  rw [rep_made] at ho1
  have ho : Own w1 w.heap.size 25 32 (some ⟨w.heap.size, 0, none⟩) 256 256 (H8 (List.replicate 256 zero32)) := ho1
  have hb : Below w.heap.size w w1 := ⟨hg1.os, hg1.tape, hg1.output, hg1.size, fun k hk => hg1.block k hk (by simp)⟩
  clear ho1 hg1 hi' hz0' hz1' hz2'
  go_loopw [4] (fun i wr => i = .int .i64 ((0 : Nat) : Int) ∧ wr = w1) (fun _ _ => 0)
  case atStart => exact ⟨rfl, rfl⟩
  case round =>
    obtain ⟨rfl, rfl⟩ := hrel
    go_wp2_with fail
    go_ret
    exact RSl.mk ho hb
/-- the table's row of sums -/
theorem info_h : (Try.prog.info? 25).map (·.size) = some 32 := by kernel_rfl
set_option maxRecDepth 100000 in
set_option maxHeartbeats 2000000 in
theorem refRoot_of (v : Value) (ls : List (List UInt8)) (hl : ls.length = 256) (hall : ∀ x ∈ ls, x.length = 32) (w : World) (HL : ∀ W, Below w.heap.size w W → Calls Try.prog 52 #[v] W (RSl W 25 32 (H8 ls))) :
    Calls Try.prog 29 #[v] w fun e w' => e = .returned (hv (rootJ 8 ls)) ∧ Below w.heap.size w w' := by
  obtain ⟨W, HW, hbw, bz⟩ : ∃ W, Hid (W = w.alloc (.cells #[.int .u8 0, .int .u8 0, .int .u8 0, .int .u8 0, .int .u8 0, .int .u8 0, .int .u8 0, .int .u8 0, .int .u8 0, .int .u8 0, .int .u8 0, .int .u8 0, .int .u8 0, .int .u8 0, .int .u8 0, .int .u8 0, .int .u8 0, .int .u8 0, .int .u8 0, .int .u8 0, .int .u8 0, .int .u8 0, .int .u8 0, .int .u8 0, .int .u8 0, .int .u8 0, .int .u8 0, .int .u8 0, .int .u8 0, .int .u8 0, .int .u8 0, .int .u8 0] 25)) ∧ Below w.heap.size w W ∧ Blk W w.heap.size 25 (B8 zero32) :=
    ⟨_, rfl, (Below.refl _ _).alloc (Nat.le_refl _) _, Blk.new w #[.int .u8 0, .int .u8 0, .int .u8 0, .int .u8 0, .int .u8 0, .int .u8 0, .int .u8 0, .int .u8 0, .int .u8 0, .int .u8 0, .int .u8 0, .int .u8 0, .int .u8 0, .int .u8 0, .int .u8 0, .int .u8 0, .int .u8 0, .int .u8 0, .int .u8 0, .int .u8 0, .int .u8 0, .int .u8 0, .int .u8 0, .int .u8 0, .int .u8 0, .int .u8 0, .int .u8 0, .int .u8 0, .int .u8 0, .int .u8 0, .int .u8 0, .int .u8 0] 25⟩
  have H := Lib.hid (HL W hbw)
  have HL8 := Lib.hid hl
  have HAL := Lib.hid hall
  clear HL hl hall
  go_enter Try.func29, Try.ntmps29
  go_upto_region 1 with fail
  refine wp_at HW.out ?_
  clear HW
  go_wp2_with fail
  refine H.out.mono ?_
  rintro e w1 ⟨A1, n1, c1, rfl, ho1, hb1⟩
  obtain rfl : 256 = n1 := by
    have h1 := ho1.len
    have h2 := H8_len ls HAL.out
    rw [HL8.out] at h2
    omega
  obtain ⟨g, rest, rfl, hg, bk, hlen⟩ := own_row ho1 (by decide)
  have hc := ho1.le
  have bz1 := bz.to hb1
  have f1 := hbw.trans (hb1.mono hbw.size)
  have hgz : w.heap.size < g := Nat.lt_of_lt_of_le bz.lt hg
  clear bz hb1 hbw ho1 H hg
  go_wp2_with fail
  go_loopw [3, 4] (fun l _ wr => ∃ (j L : Nat) (cur : List (List UInt8)) (rest : List Value), L = 2 ^ j ∧ j ≤ 8 ∧ l = .slice (some ⟨g, 0, none⟩) L c1 ∧ cur.length = L ∧ (∀ x ∈ cur, x.length = 32) ∧ rootJ 8 ls = rootJ j cur ∧ Blk wr g 25 (H8 cur ++ rest) ∧ Blk wr w.heap.size 25 (B8 zero32) ∧ Below w.heap.size w wr) (fun l _ _ => match l with | .slice _ n _ => n | _ => 0)
  case atStart => exact ⟨8, 256, ls, rest, rfl, by omega, rfl, HL8.out, HAL.out, rfl, bk, bz1, f1⟩
  case round =>
    clear bk bz1 f1
    obtain ⟨j, L, cur, rest, hL, hj, rfl, hcl, hca, hroot, bk, bz, hf⟩ := hrel
    have HLj := Lib.hid hL
    have HCL := Lib.hid hcl
    have HCA := Lib.hid hca
    have HR := Lib.hid hroot
    clear hL hcl hca hroot
    have hL1 : 1 ≤ L := by rw [HLj.out]; exact Nat.one_le_two_pow
    have hL256 : L ≤ 256 := by rw [HLj.out]; exact Nat.pow_le_pow_right (by decide) hj
    by_cases h1 : 1 < L
    · obtain ⟨j', rfl⟩ : ∃ j', j = j' + 1 := ⟨j - 1, by
        rcases j with _ | j
        · have := HLj.out; omega
        · omega⟩
      obtain ⟨M, hM⟩ : ∃ M, M = 2 ^ j' := ⟨_, rfl⟩
      have hLM : L = 2 * M := by rw [HLj.out, hM, Nat.pow_succ]; omega
      have HM := Lib.hid hM
      have u1 : ((L : Nat) : Int) / 2 = (M : Int) := by omega
      have hh : cur.length / 2 = M := by rw [HCL.out]; omega
      have HH := Lib.hid hh
      have tb : decide ((1 : Int) < (L : Int)) = true := by simp; omega
      have l2 : 2 * M ≤ L := by omega
      have l3 : L ≤ 2 * M := by omega
      clear hM hh hLM
      go_wp2_with fail
      obtain ⟨wo, rfl⟩ : ∃ wo : World, wo = wr := ⟨_, rfl⟩
      go_loopw [4] (fun i wr => ∃ i' : Nat, i = .int .i64 i' ∧ i' ≤ M ∧ Blk wr g 25 (H8 (part_ cur i') ++ rest) ∧ Blk wr w.heap.size 25 (B8 zero32) ∧ Below w.heap.size w wr) (fun i _ => M - (intOf i).toNat)
      case atStart => exact ⟨0, rfl, Nat.zero_le _, by rw [part_zero]; exact bk, bz, hf⟩
      case round =>
        clear bk bz hf
        obtain ⟨i, rfl, hi, bk, bz, hf⟩ := hrel
        by_cases hlt : i < M
        · obtain ⟨x, hx⟩ : ∃ x, cur[2 * i]? = some x := ⟨_, List.getElem?_eq_getElem (by rw [HCL.out]; omega)⟩
          obtain ⟨y, hy⟩ : ∃ y, cur[2 * i + 1]? = some y := ⟨_, List.getElem?_eq_getElem (by rw [HCL.out]; omega)⟩
          have xl := HCA.out x (List.mem_of_getElem? hx)
          have yl := HCA.out y (List.mem_of_getElem? hy)
          have pa := part_all cur HCA.out i
          have px : (part_ cur i)[2 * i]? = some x := by rw [part_get cur i (2 * i) (by rw [HH.out]; omega) (by omega)]; exact hx
          have py : (part_ cur i)[2 * i + 1]? = some y := by rw [part_get cur i (2 * i + 1) (by rw [HH.out]; omega) (by omega)]; exact hy
          have pl := part_len cur i (by rw [HH.out]; omega)
          rw [HCL.out] at pl
          have hp := put_H8 (part_ cur i) rest i (overS x y) pa (overS_len x y) (by rw [pl]; omega)
          rw [← part_next cur i (by rw [HH.out]; omega) x y hx hy] at hp
          have rx := (show Blk wr.drew g 25 (H8 (part_ cur i) ++ rest) from bk).sub (2 * i * 32) (B8 x) (H8_at_ _ pa rest (2 * i) x px)
          have ry := (show Blk wr.drew g 25 (H8 (part_ cur i) ++ rest) from bk).sub ((2 * i + 1) * 32) (B8 y) (H8_at_ _ pa rest (2 * i + 1) y py)
          have hlen : (i * 32 + 32 ≤ (H8 (part_ cur i) ++ rest).length) := by
            have := H8_len _ pa
            rw [pl] at this
            rw [List.length_append]
            omega
          have HP := Lib.hid hp
          have HLEN := Lib.hid hlen
          have XL := Lib.hid xl
          have YL := Lib.hid yl
          clear hx hy pa px py pl hp hlen xl yl
          have t1 : (i : Int) < (M : Int) := by omega
          have k1 : IntKind.i64.wrap (2 * (i : Int)) = 2 * (i : Int) := IntWalk.i64_in _ (by omega)
          have k2 : IntKind.i64.wrap (2 * (i : Int) + 1) = 2 * (i : Int) + 1 := IntWalk.i64_in _ (by omega)
          have k3 : 0 ≤ 2 * (i : Int) := by omega
          have k4 : 2 * (i : Int) < (L : Int) := by omega
          have k5 : 0 ≤ 2 * (i : Int) + 1 := by omega
          have k6 : 2 * (i : Int) + 1 < (L : Int) := by omega
          have k7 : (2 * (i : Int)).toNat = 2 * i := by omega
          have k8 : (2 * (i : Int) + 1).toNat = 2 * i + 1 := by omega
          have k9 : (i : Int) < (L : Int) := by omega
          go_wp2_with fail
          refine wp_region_T [0, 1, 2, 3, 4, 5, 7, 8, 9, 10, 11] 6 12 [(12, false), (13, false), (14, false), (15, false)] [(6, false), (13, false), (14, false), (15, false)] (fun _ _ => True) (by kernel_rfl) (by kernel_rfl) (by kernel_rfl) (by decide) (by decide) (fun _ => trivial) (fun _ _ _ _ _ => trivial) (by intro d v c a w h; cases d <;> exact h) ?_
          repeat (first | (refine wpT_quiet (v := ?_) rfl (by rfl) ?_ ?_; rotate_left; (· (intro w' hw'; go_simp; try with_reducible rfl)); simp only [Act.put, List.setIfInBounds_toArray, List.set_cons_zero, List.set_cons_succ]) | (refine wpT_skip rfl (by rfl) ?_; simp only [Act.put, List.setIfInBounds_toArray, List.set_cons_zero, List.set_cons_succ]))
          refine wpT_nil ?_ ?_
          · refine wpC_load_f (fun _ => trivial) rfl (by rfl) _ _ rfl g (2 * i * 32) rfl (B8 x) _ rx Try.underlying25 rfl (info_hash XL.out) ?_
            simp only [Act.put, List.setIfInBounds_toArray, List.set_cons_zero, List.set_cons_succ]
            refine wpC_load_f (fun _ => trivial) rfl (by rfl) _ _ rfl g ((2 * i + 1) * 32) rfl (B8 y) _ ry Try.underlying25 rfl (info_hash YL.out) ?_
            simp only [Act.put, List.setIfInBounds_toArray, List.set_cons_zero, List.set_cons_succ]
            clear rx ry
            (refine wpC_loud rfl (by rfl) ?_; intro K hK; go_simp)
            refine (refOver_any x y XL.out YL.out _).mono ?_
            rintro e w2 ⟨rfl, hb2⟩
            (refine hK.out _ _ (trivial) ?_; clear hK K; try simp only [Act.put, List.setIfInBounds_toArray, List.set_cons_zero, List.set_cons_succ])
            unfold hv
            have bk2 := Blk.to (w := wr.drew) bk hb2
            have bz2 := Blk.to (w := wr.drew) bz hb2
            have f2 := hf.drew.trans (hb2.mono hf.drew.size)
            repeat (first | (refine wpC_quiet (v := ?_) rfl (by rfl) ?_ ?_; rotate_left; (· (intro w' hw'; go_simp; try with_reducible rfl)); simp only [Act.put, List.setIfInBounds_toArray, List.set_cons_zero, List.set_cons_succ]) | (refine wpC_val (v := ?_) (fun _ => trivial) rfl (by rfl) ?_ ?_; rotate_left; (· (go_simp; try with_reducible rfl)); simp only [Act.put, List.setIfInBounds_toArray, List.set_cons_zero, List.set_cons_succ]) | (refine wpC_skip rfl (by rfl) ?_; simp only [Act.put, List.setIfInBounds_toArray, List.set_cons_zero, List.set_cons_succ]) | (refine wpC_skip' (fun _ => trivial) rfl (by rfl) ?_; simp only [Act.put, List.setIfInBounds_toArray, List.set_cons_zero, List.set_cons_succ]))
            refine wpC_store_fld rfl (by rfl) _ _ _ rfl g (i * 32) _ _ (B8 (overS x y)) rfl _ rfl rfl bk2 (by rw [B8_len, overS_len]; exact HLEN.out) (info_hash (overS_len x y)) (B8_one _) (fun _ _ => trivial) ?_
            intro w3 bk3 bu3
            rw [HP.out] at bk3
            have bz3 := bz2.but bu3 (by simp; omega)
            have f3 := f2.trans (below_but bu3 (by omega) f2.size)
            clear bk bz hf hb2 bk2 bz2 f2 bu3 k1 k2 k3 k4 k5 k6 k7 k8 k9
            simp only [Act.put, List.setIfInBounds_toArray, List.set_cons_zero, List.set_cons_succ]
            refine wpC_nil ?_
            go_wp2_with fail
            go_roundw
            case rel => exact ⟨i + 1, by go_num, by omega, bk3, bz3, f3⟩
            case measure => simp [intOf]; omega
          · refine wpC_load_f (fun _ => trivial) rfl (by rfl) _ _ rfl g ((2 * i + 1) * 32) rfl (B8 y) _ ry Try.underlying25 rfl (info_hash YL.out) ?_
            simp only [Act.put, List.setIfInBounds_toArray, List.set_cons_zero, List.set_cons_succ]
            refine wpC_load_f (fun _ => trivial) rfl (by rfl) _ _ rfl g (2 * i * 32) rfl (B8 x) _ rx Try.underlying25 rfl (info_hash XL.out) ?_
            simp only [Act.put, List.setIfInBounds_toArray, List.set_cons_zero, List.set_cons_succ]
            clear rx ry
            (refine wpC_loud rfl (by rfl) ?_; intro K hK; go_simp)
            refine (refOver_any x y XL.out YL.out _).mono ?_
            rintro e w2 ⟨rfl, hb2⟩
            (refine hK.out _ _ (trivial) ?_; clear hK K; try simp only [Act.put, List.setIfInBounds_toArray, List.set_cons_zero, List.set_cons_succ])
            unfold hv
            have bk2 := Blk.to (w := wr.drew) bk hb2
            have bz2 := Blk.to (w := wr.drew) bz hb2
            have f2 := hf.drew.trans (hb2.mono hf.drew.size)
            repeat (first | (refine wpC_quiet (v := ?_) rfl (by rfl) ?_ ?_; rotate_left; (· (intro w' hw'; go_simp; try with_reducible rfl)); simp only [Act.put, List.setIfInBounds_toArray, List.set_cons_zero, List.set_cons_succ]) | (refine wpC_val (v := ?_) (fun _ => trivial) rfl (by rfl) ?_ ?_; rotate_left; (· (go_simp; try with_reducible rfl)); simp only [Act.put, List.setIfInBounds_toArray, List.set_cons_zero, List.set_cons_succ]) | (refine wpC_skip rfl (by rfl) ?_; simp only [Act.put, List.setIfInBounds_toArray, List.set_cons_zero, List.set_cons_succ]) | (refine wpC_skip' (fun _ => trivial) rfl (by rfl) ?_; simp only [Act.put, List.setIfInBounds_toArray, List.set_cons_zero, List.set_cons_succ]))
            refine wpC_store_fld rfl (by rfl) _ _ _ rfl g (i * 32) _ _ (B8 (overS x y)) rfl _ rfl rfl bk2 (by rw [B8_len, overS_len]; exact HLEN.out) (info_hash (overS_len x y)) (B8_one _) (fun _ _ => trivial) ?_
            intro w3 bk3 bu3
            rw [HP.out] at bk3
            have bz3 := bz2.but bu3 (by simp; omega)
            have f3 := f2.trans (below_but bu3 (by omega) f2.size)
            clear bk bz hf hb2 bk2 bz2 f2 bu3 k1 k2 k3 k4 k5 k6 k7 k8 k9
            simp only [Act.put, List.setIfInBounds_toArray, List.set_cons_zero, List.set_cons_succ]
            refine wpC_nil ?_
            go_wp2_with fail
            go_roundw
            case rel => exact ⟨i + 1, by go_num, by omega, bk3, bz3, f3⟩
            case measure => simp [intOf]; omega
        · obtain rfl : M = i := by omega
          have hpe := part_end cur
          rw [HH.out] at hpe
          rw [hpe, H8_app, List.append_assoc] at bk
          have hroot : rootJ 8 ls = rootJ j' (halve cur) := HR.out
          have HRO := Lib.hid hroot
          have hhl := halve_len cur
          rw [HH.out] at hhl
          have HHL := Lib.hid hhl
          clear hpe hroot hhl
          go_wp2_with fail
          go_roundw
          case rel => exact ⟨j', M, halve cur, _, HM.out, by omega, rfl, HHL.out, halve_all cur, HRO.out, bk, bz, hf⟩
          case measure => show M < L; omega
    · obtain rfl : 1 = L := by omega
      obtain rfl : j = 0 := by
        rcases j with _ | j
        · rfl
        · have := HLj.out; have := Nat.one_le_two_pow (n := j); rw [Nat.pow_succ] at *; omega
      have hx : ∃ x, cur = [x] := by
        have := HCL.out
        rcases cur with _ | ⟨x, _ | ⟨y, cur⟩⟩
        · simp at this
        · exact ⟨x, rfl⟩
        · simp at this
      obtain ⟨x, rfl⟩ := hx
      have xl := HCA.out x (by simp)
      have rx := bk.sub 0 (B8 x) (by simp [H8])
      have HX := Lib.hid xl
      have IX := Lib.hid (info_hash xl)
      clear xl
      go_wp2_with (first
        | (refine wpl_load_fld (by rfl) _ _ rfl g 0 rfl (B8 x) _ rx Try.underlying25 rfl IX.out ?_)
        | (refine wpl_store_fld (by rfl) _ _ _ rfl w.heap.size 0 _ _ (B8 x) rfl _ rfl rfl bz (by rw [B8_len, HX.out]; exact Nat.le_refl _) IX.out (B8_one _) ?_
           intro w2 bz2 bu2
           rw [put_all _ _ (by rw [B8_len, HX.out]; rfl)] at bz2))
      refine bodyPost_ret (v := .agg (B8 (rootJ 8 ls)).toArray) ?_ rfl ⟨rfl, hf.trans (below_but bu2 (Nat.le_refl _) hf.size)⟩
      rw [HR.out]
      exact results_blk Try.results29 rfl bz2 Try.underlying25 rfl IX.out
end Go.Proofs.Ytdopgooglicaiaa
/- Copying rows of cells; the walk of court.hashes. -/
set_option linter.unusedSimpArgs false
set_option linter.unusedVariables false
namespace Go.Proofs.Ytdopgooglicaiaa
open Go.RowKit
set_option maxRecDepth 100000
theorem own_from {w : World} {g : Nat} {e : TypeId} {size n c B : Nat} {xs rest : List Value} (bk : Blk w g e (xs ++ rest)) (hx : xs.length = n * size) (hl : (xs ++ rest).length = c * size) (hB : B ≤ g) (hnc : n ≤ c) (hc : c ≤ maxLen) : Own w B e size (some ⟨g, 0, none⟩) n c xs :=
  ⟨hx, .inr ⟨g, c, (xs ++ rest).toArray, rfl, hB, bk, hnc, hc, by simpa using hl, by simp [← hx]⟩⟩
section
variable {P : Program}
/-- copy over rows of some size -/
theorem run_copy_k (size : Nat) (w : World) (dT sT ty elem : TypeId) (g dCap : Nat) (A : Option Addr) (n sCap : Nat) (cur : Array Value) (t : TypeId) (cs : List Value)
    (hu : P.underlying dT = some (.slice elem)) (hs : (P.info? elem).map (·.size) = some size) (hg : w.heap[g]? = some (.cells cur t (0, 0))) (hn : cs.length = n * size)
    (hsrc : ∀ j v, cs[j]? = some v → ∃ a, A = some a ∧ w.cell? (a.add j) = some v) (hA : A = none → n = 0) (hfit : cs.length ≤ cur.size) (h1 : ∀ v ∈ cs, v.oneCell' = true) :
    (Builtin.copy_ #[dT, sT] ty #[.slice (some ⟨g, 0, none⟩) n dCap, .slice A n sCap]).run P w = .ok (goInt n) (w.setRow g (cs ++ cur.toList.drop cs.length).toArray) := by
  have hst := run_storeCells_at P g 0 t cs 0 cur w hg (by simpa using hfit) h1
  cases hq : P.info? elem with
  | none => simp [hq] at hs
  | some i =>
    have hi : i.size = size := by simpa [hq] using hs
    cases A with
    | none =>
      have h0 := hA rfl
      subst h0
      have hc : cs = [] := List.eq_nil_of_length_eq_zero (by omega)
      subst hc
      simp [Builtin.copy_, run_underlying hu, Builtin.lenOf, Builtin.firstCells, sizeOf, typeInfo, hq, storeCells]
      rw [setRow_self w g cur t (0, 0) hg]
    | some a =>
      have hl := run_loadCells_list (P := P) w a cs (fun j v hv => by
        obtain ⟨a', h1, h2⟩ := hsrc j v hv
        injection h1 with h1
        rw [h1]
        exact h2)
      simp only [hn] at hl
      simp [Builtin.copy_, run_underlying hu, Builtin.lenOf, Builtin.firstCells, sizeOf, typeInfo, hq, hi, hl]
      simp at hst
      rw [hst]
      rfl
theorem wpl_copy_k {w : World} {ops : Array Oper} {rest : List Oper} {o : Oper} {a : Act} {Q : Exit → Act → World → Prop} (hgd : o.guard = none) (size : Nat) (d s : Operand) (dT sT : TypeId)
    (ho : o.op = .call { callee := .builtin .copy, args := #[d, s], argTypes := #[dT, sT] }) (elem : TypeId) (hu : P.underlying dT = some (.slice elem)) (hsz : (P.info? elem).map (·.size) = some size)
    (g dCap : Nat) (A : Option Addr) (n sCap : Nat) (hd : a.eval d = .slice (some ⟨g, 0, none⟩) n dCap) (hs : a.eval s = .slice A n sCap)
    (t : TypeId) (cur cs : List Value) (hg : Blk w g t cur) (sl : Sl w size A n cs) (hfit : cs.length ≤ cur.length) (h1 : ∀ v ∈ cs, v.oneCell' = true)
    (h : ∀ w', Blk w' g t (cs ++ cur.drop cs.length) → RBut (some g) w w' → wpList P ops Q rest (a.put o.dst (goInt n)) w') : wpList P ops Q (o :: rest) a w := by
  refine wpList_plain hgd fun K hK => ?_
  have hrun := run_copy_k (P := P) size w dT sT o.type elem g dCap A n sCap cur.toArray t cs hu hsz hg sl.len (fun j v hv => by
    have hlt := (List.getElem?_eq_some_iff.1 hv).1
    have hn0 : 0 < n := by
      rcases Nat.eq_zero_or_pos n with h0 | h0
      · have := sl.len
        rw [h0] at this
        omega
      · exact h0
    obtain ⟨b, o', rfl, _, hc⟩ := sl.cells hn0
    exact ⟨_, rfl, by rw [add_off]; exact hc j v hv⟩) (fun hA => by
      subst hA
      rcases Nat.eq_zero_or_pos n with h0 | h0
      · exact h0
      · obtain ⟨_, _, h, _⟩ := sl.cells h0
        cases h) (by simpa using hfit) h1
  unfold Oper.wp
  simp [execOp, ho, resolve, invoke, builtin, hd, hs, hrun, Result.andThen]
  refine hK _ _ (h _ ?_ ?_)
  · have := setRow_heap w g cur.toArray (cs ++ cur.drop cs.length).toArray t (0, 0) hg
    unfold Blk
    simpa using this
  · exact ⟨rfl, rfl, rfl, by simp [World.setRow], fun k hk hne => setRow_other w g k _ (by intro e; exact hne (by rw [e]))⟩
end
theorem own_whole {w : World} {B n g : Nat} {e : TypeId} {size : Nat} {xs : List Value} (h : w.ownsRow B e size (.slice (some ⟨g, 0, none⟩) n n) n xs) : Blk w g e xs := by
  rcases h.2 with ⟨h1, _⟩ | ⟨g', cap, cur, h1, h2, h3, h4, h5, h6, h7⟩
  · cases h1
  · injection h1 with h1 h8 h9
    injection h1 with h1
    injection h1 with h1
    subst h1
    subst h9
    have h10 : cur.toList.length = n * size := by simpa using h6
    rw [List.take_of_length_le (by omega)] at h7
    unfold Blk
    rw [← h7]
    simpa using h3
set_option maxRecDepth 100000 in
set_option maxHeartbeats 2000000 in
theorem hashes_copy (A : Option Addr) (n c : Nat) (hs : List (List UInt8)) (w : World) (sl : Sl w 32 A n (H8 hs)) (hn : n ≤ 4194304) :
    Calls Try.prog 39 #[.slice A n c] w fun e w' => e = .returned (.slice (some ⟨w.heap.size, 0, none⟩) n n) ∧ Blk w' w.heap.size 25 (H8 hs) ∧ Below w.heap.size w w' := by
  obtain ⟨i, hi, hz0, hz1, hz2⟩ := info_parts (P := Try.prog) (e := 25) (z := .agg #[.int .u8 0, .int .u8 0, .int .u8 0, .int .u8 0, .int .u8 0, .int .u8 0, .int .u8 0, .int .u8 0, .int .u8 0, .int .u8 0, .int .u8 0, .int .u8 0, .int .u8 0, .int .u8 0, .int .u8 0, .int .u8 0, .int .u8 0, .int .u8 0, .int .u8 0, .int .u8 0, .int .u8 0, .int .u8 0, .int .u8 0, .int .u8 0, .int .u8 0, .int .u8 0, .int .u8 0, .int .u8 0, .int .u8 0, .int .u8 0, .int .u8 0, .int .u8 0]) (size := 32) (bytes := 32) (by kernel_rfl)
  have HI := Lib.hid (And.intro hi (And.intro hz0 (And.intro hz1 hz2)))
  have hl := sl.len
  have HL := Lib.hid hl
  clear hi hz0 hz1 hz2 hl
  go_enter Try.func39, Try.ntmps39
  go_wp2_with (first
    | (at_make
       refine wpList_make_full _ rfl _ _ _ rfl w.heap.size _ i _ 32 Try.underlying26 HI.out.1 HI.out.2.1 HI.out.2.2.1 .i64 .i64 _ _ n rfl rfl rfl rfl (by rw [HI.out.2.2.2]; omega) (by simp only [maxLen]; omega) (Nat.le_refl _) ?_
       intro w1 ho1 hg1
       have hb1 : Below w.heap.size w w1 := (Below.refl _ _).grown hg1 (Nat.le_refl _) (by simp)
       have sl1 := sl.to hb1
       have bk := own_whole ho1
       have hzl := ho1.1
       clear ho1 hg1)
    | (refine wpl_copy_k rfl 32 _ _ _ _ rfl _ Try.underlying26 (by kernel_rfl) w.heap.size n A n c rfl rfl _ _ (H8 hs) bk sl1 (by rw [HL.out]; exact Nat.le_of_eq hzl.symm) (H8_one _) ?_
       intro w2 bk2 bu2))
  go_ret
  refine ⟨rfl, ?_, hb1.trans (below_but bu2 (Nat.le_refl _) hb1.size)⟩
  rw [List.drop_eq_nil_of_le (by rw [HL.out]; exact Nat.le_of_eq hzl), List.append_nil] at bk2
  exact bk2
end Go.Proofs.Ytdopgooglicaiaa
/- Walks: slices.Clone at claims, at suits. -/
set_option linter.unusedSimpArgs false
set_option linter.unusedVariables false
namespace Go.Proofs.Ytdopgooglicaiaa
open Go.RowKit
set_option maxRecDepth 100000
def zeroCL : CL := ⟨0, 0, 0, 0, zero32, []⟩
def zeroSU : SU := ⟨0, zeroGD, []⟩
theorem elC : El Try.prog 28 39 37 88 := El.mk' (z := .agg (clF (.slice none 0 0, zeroCL)).toArray) Try.underlying28 (by kernel_rfl) rfl (by decide)
theorem elS : El Try.prog 37 44 106 192 := El.mk' (z := .agg (suF (.slice none 0 0, zeroSU)).toArray) Try.underlying37 (by kernel_rfl) rfl (by decide)
theorem clone_C (A : Option Addr) (n c : Nat) (xs : List Value) (w : World) (h : Sl w 37 A n xs) (h1 : ∀ u ∈ xs, u.oneCell' = true) (hn : n ≤ 4194304) :
    Calls Try.prog 54 #[.slice A n c] w (RSl w 39 37 xs) := by
  have q : ∀ (W : World) (A : Option Addr), (binOp .eql 28 (.slice A n c) (.slice none 0 0)).run Try.prog W = .ok (.bool A.isNone) W := fun W A => Lib.run_eql_slice_nil W _ _ A n c 0 0 Try.underlying28
  rcases A with _ | ad
  · obtain rfl : n = 0 := by
      rcases Nat.eq_zero_or_pos n with h0 | h0
      · exact h0
      · obtain ⟨_, _, h, _⟩ := h.cells h0
        cases h
    obtain rfl : xs = [] := List.eq_nil_of_length_eq_zero (by simpa using h.len)
    go_enter Try.func54, Try.ntmps54
    go_wp2
    go_ret
    exact RSl.mk Own.nil_ (Below.refl _ _)
  · go_enter Try.func54, Try.ntmps54
    go_wp2_with (first
      | (at_builtin
         refine wpl_app _ _ _ _ elC rfl rfl rfl (Own.made w w.heap.size 39 #[] (Nat.le_refl _) (Nat.zero_le _) (by simp)) rfl (h.alloc _) h1 (by omega) (by omega) (by simp) ?_
         intro A' c' w' g))
    go_ret
    refine RSl.mk (by simpa using g.own) ?_
    exact below_grown ((Below.refl _ _).alloc (Nat.le_refl _) _) g.grow (by simp) (by intro k hk; simp at hk; omega)
theorem clone_S (A : Option Addr) (n c : Nat) (xs : List Value) (w : World) (h : Sl w 106 A n xs) (h1 : ∀ u ∈ xs, u.oneCell' = true) (hn : n ≤ 4194304) :
    Calls Try.prog 55 #[.slice A n c] w (RSl w 44 106 xs) := by
  have q : ∀ (W : World) (A : Option Addr), (binOp .eql 37 (.slice A n c) (.slice none 0 0)).run Try.prog W = .ok (.bool A.isNone) W := fun W A => Lib.run_eql_slice_nil W _ _ A n c 0 0 Try.underlying37
  rcases A with _ | ad
  · obtain rfl : n = 0 := by
      rcases Nat.eq_zero_or_pos n with h0 | h0
      · exact h0
      · obtain ⟨_, _, h, _⟩ := h.cells h0
        cases h
    obtain rfl : xs = [] := List.eq_nil_of_length_eq_zero (by simpa using h.len)
    go_enter Try.func55, Try.ntmps55
    go_wp2
    go_ret
    exact RSl.mk Own.nil_ (Below.refl _ _)
  · go_enter Try.func55, Try.ntmps55
    go_wp2_with (first
      | (at_builtin
         refine wpl_app _ _ _ _ elS rfl rfl rfl (Own.made w w.heap.size 44 #[] (Nat.le_refl _) (Nat.zero_le _) (by simp)) rfl (h.alloc _) h1 (by omega) (by omega) (by simp) ?_
         intro A' c' w' g))
    go_ret
    refine RSl.mk (by simpa using g.own) ?_
    exact below_grown ((Below.refl _ _).alloc (Nat.le_refl _) _) g.grow (by simp) (by intro k hk; simp at hk; omega)
end Go.Proofs.Ytdopgooglicaiaa
/- What a court's own copy owns. -/
set_option linter.unusedSimpArgs false
set_option linter.unusedVariables false
namespace Go.Proofs.Ytdopgooglicaiaa
open Go.RowKit
set_option maxRecDepth 100000
def bnd (A : Option Addr) : Nat := match A with | some a => a.block + 1 | none => 0
def HsO (w : World) (B : Nat) (v : Value) (hs : List (List UInt8)) : Prop := ∃ A n c, v = .slice A n c ∧ Sl w 32 A n (H8 hs) ∧ hs.length = n ∧ n ≤ c ∧ ∀ b, A.map (·.block) = some b → B ≤ b
def SuO (w : World) (B : Nat) (v : Value) (ss : List SU) : Prop := ∃ A n c l, v = .slice A n c ∧ Own w B 44 106 A n c (rows suF l) ∧ l.map (·.2) = ss ∧ l.length = n ∧ ∀ p ∈ l, HsO w (bnd A) p.1 p.2.hs
def ClO (w : World) (B : Nat) (v : Value) (cs : List CL) : Prop := ∃ A n c l, v = .slice A n c ∧ Own w B 39 37 A n c (rows clF l) ∧ l.map (·.2) = cs ∧ l.length = n ∧ ∀ p ∈ l, SuO w (bnd A) p.1 p.2.suits
/-- a court's own copy, of whose blocks the first is its transactions' -/
def RCo (w : World) (c : CO) (en : Ending) (w' : World) : Prop := ∃ T vc, en = .returned (.agg (coC (.slice (some ⟨T, 0, none⟩) c.txs.length c.txs.length) vc c).toArray) ∧ w.heap.size ≤ T ∧ Blk w' T 25 (H8 c.txs) ∧ ClO w' (T + 1) vc c.claims ∧ Below w.heap.size w w'
section
variable {w w' : World} {B p : Nat} {v : Value} {hs : List (List UInt8)} {ss : List SU} {cs : List CL}
theorem HsO.to (h : HsO w B v hs) (hb : Below w.heap.size w w') : HsO w' B v hs := by
  obtain ⟨A, n, c, e, sl, h1, h2, h3⟩ := h
  exact ⟨A, n, c, e, sl.to hb, h1, h2, h3⟩
theorem HsO.but (h : HsO w B v hs) (hr : RBut (some p) w w') (hp : p < B) : HsO w' B v hs := by
  obtain ⟨A, n, c, e, sl, h1, h2, h3⟩ := h
  exact ⟨A, n, c, e, sl.but2 hr (fun b hb e => by injection e with e; have := h3 b hb; omega), h1, h2, h3⟩
theorem HsO.x (h : HsO w B v hs) {S : List Nat} (hS : ∀ b ∈ S, b < B) : HsX S w v hs := by
  obtain ⟨A, n, c, e, sl, h1, h2, h3⟩ := h
  exact ⟨A, n, c, e, sl, h1, h2, fun b hb hm => by have := h3 b hb; have := hS b hm; omega⟩
theorem SuO.to (h : SuO w B v ss) (hb : Below w.heap.size w w') : SuO w' B v ss := by
  obtain ⟨A, n, c, l, e, o, h1, h2, h3⟩ := h
  exact ⟨A, n, c, l, e, o.to hb, h1, h2, fun q hq => (h3 q hq).to hb⟩
theorem none_len {e : TypeId} {k n c : Nat} {xs : List Value} (o : Own w B e k none n c xs) : n = 0 := by
  rcases o.2 with ⟨_, h⟩ | ⟨g, cap, cur, hv, _⟩
  · exact h
  · injection hv with hv
    cases hv
theorem SuO.but (h : SuO w B v ss) (hr : RBut (some p) w w') (hp : p < B) : SuO w' B v ss := by
  obtain ⟨A, n, c, l, e, o, h1, h2, h3⟩ := h
  refine ⟨A, n, c, l, e, own_but o hr (fun k hk => by injection hk with hk; omega), h1, h2, fun q hq => (h3 q hq).but hr ?_⟩
  cases A with
  | none =>
    have := none_len o
    have := List.length_pos_of_mem hq
    omega
  | some a =>
    have := (o.lt a.block rfl).1
    simp only [bnd]
    omega
theorem SuO.x (h : SuO w B v ss) {S : List Nat} (hS : ∀ b ∈ S, b < B) : SuX S w v ss := by
  obtain ⟨A, n, c, l, e, o, h1, h2, h3⟩ := h
  refine ⟨A, n, c, l, e, o.sl, h1, h2, o.le.1, fun b hb hm => by have := (o.lt b hb).1; have := hS b hm; omega, fun q hq => (h3 q hq).x fun b hb => ?_⟩
  cases A with
  | none =>
    have := none_len o
    have := List.length_pos_of_mem hq
    omega
  | some a =>
    have := (o.lt a.block rfl).1
    have := hS b hb
    simp only [bnd]
    omega
theorem ClO.x (h : ClO w B v cs) {S : List Nat} (hS : ∀ b ∈ S, b < B) : ClX S w v cs := by
  obtain ⟨A, n, c, l, e, o, h1, h2, h3⟩ := h
  refine ⟨A, n, c, l, e, o.sl, h1, h2, o.le.1, fun b hb hm => by have := (o.lt b hb).1; have := hS b hm; omega, fun q hq => (h3 q hq).x fun b hb => ?_⟩
  cases A with
  | none =>
    have := none_len o
    have := List.length_pos_of_mem hq
    omega
  | some a =>
    have := (o.lt a.block rfl).1
    have := hS b hb
    simp only [bnd]
    omega
theorem ClO.to (h : ClO w B v cs) (hb : Below w.heap.size w w') : ClO w' B v cs := by
  obtain ⟨A, n, c, l, e, o, h1, h2, h3⟩ := h
  exact ⟨A, n, c, l, e, o.to hb, h1, h2, fun q hq => (h3 q hq).to hb⟩
theorem ClO.but (h : ClO w B v cs) (hr : RBut (some p) w w') (hp : p < B) : ClO w' B v cs := by
  obtain ⟨A, n, c, l, e, o, h1, h2, h3⟩ := h
  refine ⟨A, n, c, l, e, own_but o hr (fun k hk => by injection hk with hk; omega), h1, h2, fun q hq => (h3 q hq).but hr ?_⟩
  cases A with
  | none =>
    have := none_len o
    have := List.length_pos_of_mem hq
    omega
  | some a =>
    have := (o.lt a.block rfl).1
    simp only [bnd]
    omega
theorem own_blk {b n k : Nat} {e : TypeId} {xs : List Value} (h : Blk w b e xs) (hx : xs.length = n * k) (hn : n ≤ maxLen) : Own w b e k (some ⟨b, 0, none⟩) n n xs :=
  own_from (rest := []) (by rw [List.append_nil]; exact h) hx (by rw [List.append_nil]; exact hx) (Nat.le_refl _) (Nat.le_refl _) hn
/-- what hands back an own copy hands back what reads as the court -/
theorem RCo.xs {c : CO} {en : Ending} (h : RCo w c en w') (hc : c.ok) {S : List Nat} (hS : ∀ b ∈ S, b < w.heap.size) : ∃ vt vc, en = .returned (.agg (coC vt vc c).toArray) ∧ HsX S w' vt c.txs ∧ ClX S w' vc c.claims ∧ Below w.heap.size w w' := by
  obtain ⟨T, vc, rfl, h1, h2, h3, h4⟩ := h
  have hl : (H8 c.txs).length = c.txs.length * 32 := by rw [H8_len _ hc.txs, Nat.mul_comm]
  exact ⟨_, vc, rfl, ⟨_, _, _, rfl, h2.sl hl, rfl, Nat.le_refl _, fun b hb hm => by have hb' : T = b := (by injection hb); have := hS b hm; omega⟩, h3.x (fun b hb => by have := hS b hb; omega), h4⟩
theorem RCo.xt {c : CO} {en : Ending} (h : RCo w c en w') (hc : c.ok) : ∃ vt vc, en = .returned (.agg (coC vt vc c).toArray) ∧ vt.oneCell' = true ∧ vc.oneCell' = true ∧ Below w.heap.size w w' ∧
    ∀ (p : Nat) (w'' : World), p < w.heap.size → RBut (some p) w' w'' → ∀ S : List Nat, (∀ b ∈ S, b < w.heap.size) → CoX S w'' (.agg (coC vt vc c).toArray) c := by
  obtain ⟨T, vc, rfl, h1, h2, h3, h4⟩ := h
  have hl : (H8 c.txs).length = c.txs.length * 32 := by rw [H8_len _ hc.txs, Nat.mul_comm]
  refine ⟨_, vc, rfl, rfl, (h3.x (S := []) (fun _ h => by cases h)).one, h4, fun p w'' hp hr S hS => ⟨_, vc, rfl, ⟨_, _, _, rfl, (h2.sl hl).but2 hr (fun b hb e => by have hb' : T = b := (by injection hb); injection e; omega), rfl, Nat.le_refl _, fun b hb hm => by have hb' : T = b := (by injection hb); have := hS b hm; omega⟩, (h3.but hr (by omega)).x (fun b hb => by have := hS b hb; omega)⟩⟩
theorem RCo.x {c : CO} {en : Ending} (h : RCo w c en w') (hc : c.ok) : ∃ v, en = .returned v ∧ CoX [] w' v c ∧ Below w.heap.size w w' := by
  obtain ⟨vt, vc, h1, h2, h3, h4⟩ := h.xs hc (S := []) (fun _ h => by cases h)
  exact ⟨_, h1, ⟨vt, vc, rfl, h2, h3⟩, h4⟩
end
end Go.Proofs.Ytdopgooglicaiaa
/- A drawn region walked by a plan: what is taken first; what stands alone; where two or three operations can come up, each. -/
set_option linter.unusedSimpArgs false
set_option linter.unusedVariables false
namespace Go.Proofs.Ytdopgooglicaiaa
open Go.RowKit
set_option maxRecDepth 100000
inductive Plan where
  | done : Plan
  | take : Nat → Plan → Plan
  | one : Nat → Plan → Plan
  | two : Nat → Plan → Nat → Plan → Plan
  | three : Nat → Plan → Nat → Plan → Nat → Plan → Plan
def Plan.depth : Plan → Nat
  | .done => 0
  | .take _ p => p.depth + 1
  | .one _ p => p.depth + 1
  | .two _ p _ q => max p.depth q.depth + 1
  | .three _ p _ q _ r => max p.depth (max q.depth r.depth) + 1
section
variable {P : Program} {ops : Array Oper} {Q : Exit → Act → World → Prop} {R : World → World → Prop}
def planOk (ops : Array Oper) : Plan → Array Bool → Bool
  | .done, listed => Region.ready .any ops listed == []
  | .take i p, listed => Region.free .any ops listed i && (Region.ready .any ops listed).contains i && planOk ops p (listed.setIfInBounds i true)
  | .one i p, listed => Region.ready .any ops listed == [i] && planOk ops p (listed.setIfInBounds i true)
  | .two i p j q, listed => Region.ready .any ops listed == [i, j] && planOk ops p (listed.setIfInBounds i true) && planOk ops q (listed.setIfInBounds j true)
  | .three i p j q k r, listed => Region.ready .any ops listed == [i, j, k] && planOk ops p (listed.setIfInBounds i true) && planOk ops q (listed.setIfInBounds j true) && planOk ops r (listed.setIfInBounds k true)
def wpP (P : Program) (ops : Array Oper) (Q : Exit → Act → World → Prop) (R : World → World → Prop) : Plan → Act → World → Prop
  | .done, a, w => Q .normal a w
  | .take i p, a, w => ∃ o v, ops[i]? = some o ∧ YieldsIf P ops (R w) o v a ∧ wpP P ops Q R p (a.put o.dst v) w
  | .one i p, a, w => wpOp P ops Q i (fun a' w' => R w w' ∧ wpP P ops Q R p a' w') a w
  | .two i p j q, a, w => wpOp P ops Q i (fun a' w' => R w w' ∧ wpP P ops Q R p a' w') a w ∧ wpOp P ops Q j (fun a' w' => R w w' ∧ wpP P ops Q R q a' w') a w
  | .three i p j q k r, a, w => wpOp P ops Q i (fun a' w' => R w w' ∧ wpP P ops Q R p a' w') a w ∧ wpOp P ops Q j (fun a' w' => R w w' ∧ wpP P ops Q R q a' w') a w ∧ wpOp P ops Q k (fun a' w' => R w w' ∧ wpP P ops Q R r a' w') a w
theorem wpAnyH_of_P (hrefl : ∀ w, R w w) (htr : ∀ a b c, R a b → R b c → R a c) (hs : Region.noSelect ops = true) (hQ : ∀ (d : Option Tmp) (v : Value) c a w, Q (.panic c) (a.put d v) w → Q (.panic c) a w) :
    ∀ (p : Plan) (fuel : Nat) (listed : Array Bool) (a : Act) (w : World) (S : World → Prop), planOk ops p listed = true → p.depth ≤ fuel → (∀ w', R w w' → S w') → wpP P ops Q R p a w → wpAnyH P .any ops Q S fuel listed a w
  | .done, fuel, listed, a, w, S, hok, _, _, h => wpAnyH_done (by simpa [planOk] using hok) h fuel
  | .take i p, fuel, listed, a, w, S, hok, hf, hS, h => by
    obtain ⟨f, rfl⟩ : ∃ f, fuel = f + 1 := ⟨fuel - 1, by simp [Plan.depth] at hf; omega⟩
    simp only [planOk, Bool.and_eq_true] at hok
    obtain ⟨o, v, ho, hy, hr⟩ := h
    have ih := wpAnyH_of_P hrefl htr hs hQ p f (listed.setIfInBounds i true) (a.put o.dst v) w (fun w' => S w' ∧ R w w') hok.2 (by simp [Plan.depth] at hf; omega) (fun w' h' => ⟨hS w' h', h'⟩) hr
    refine wpAnyH_weaken (fun w' h' => h'.1) _ _ _ _ (wpAnyH_take (oi := o) (v := v) ho hs hok.1.1 hok.1.2 (fun c a w => hQ o.dst v c a w) ?_ ⟨hS w (hrefl w), hrefl w⟩ ih)
    rcases hy with ⟨h1, h2⟩ | h1
    · exact .inl ⟨h1, fun w' h' => h2 w' h'.2⟩
    · exact .inr h1
  | .one i p, fuel, listed, a, w, S, hok, hf, hS, h => by
    obtain ⟨f, rfl⟩ : ∃ f, fuel = f + 1 := ⟨fuel - 1, by simp [Plan.depth] at hf; omega⟩
    simp only [planOk, Bool.and_eq_true, beq_iff_eq] at hok
    refine wpAnyH_all hok.1 (by simp) fun m hm => ?_
    obtain rfl : m = i := by simpa using hm
    exact wpOp_mono (fun a' w' h' => ⟨hS w' h'.1, wpAnyH_of_P hrefl htr hs hQ p f _ a' w' S hok.2 (by simp [Plan.depth] at hf; omega) (fun w'' h'' => hS w'' (htr _ _ _ h'.1 h'')) h'.2⟩) h
  | .two i p j q, fuel, listed, a, w, S, hok, hf, hS, h => by
    obtain ⟨f, rfl⟩ : ∃ f, fuel = f + 1 := ⟨fuel - 1, by simp [Plan.depth] at hf; omega⟩
    simp only [planOk, Bool.and_eq_true, beq_iff_eq] at hok
    obtain ⟨⟨hr, h1⟩, h2⟩ := hok
    simp only [Plan.depth] at hf
    refine wpAnyH_all hr (by simp) fun m hm => ?_
    rcases List.mem_cons.1 hm with rfl | hm
    · exact wpOp_mono (fun a' w' h' => ⟨hS w' h'.1, wpAnyH_of_P hrefl htr hs hQ p f _ a' w' S h1 (by omega) (fun w'' h'' => hS w'' (htr _ _ _ h'.1 h'')) h'.2⟩) h.1
    · obtain rfl : m = j := by simpa using hm
      exact wpOp_mono (fun a' w' h' => ⟨hS w' h'.1, wpAnyH_of_P hrefl htr hs hQ q f _ a' w' S h2 (by omega) (fun w'' h'' => hS w'' (htr _ _ _ h'.1 h'')) h'.2⟩) h.2
  | .three i p j q k r, fuel, listed, a, w, S, hok, hf, hS, h => by
    obtain ⟨f, rfl⟩ : ∃ f, fuel = f + 1 := ⟨fuel - 1, by simp [Plan.depth] at hf; omega⟩
    simp only [planOk, Bool.and_eq_true, beq_iff_eq] at hok
    obtain ⟨⟨⟨hr, h1⟩, h2⟩, h3⟩ := hok
    simp only [Plan.depth] at hf
    refine wpAnyH_all hr (by simp) fun m hm => ?_
    rcases List.mem_cons.1 hm with rfl | hm
    · exact wpOp_mono (fun a' w' h' => ⟨hS w' h'.1, wpAnyH_of_P hrefl htr hs hQ p f _ a' w' S h1 (by omega) (fun w'' h'' => hS w'' (htr _ _ _ h'.1 h'')) h'.2⟩) h.1
    · rcases List.mem_cons.1 hm with rfl | hm
      · exact wpOp_mono (fun a' w' h' => ⟨hS w' h'.1, wpAnyH_of_P hrefl htr hs hQ q f _ a' w' S h2 (by omega) (fun w'' h'' => hS w'' (htr _ _ _ h'.1 h'')) h'.2⟩) h.2.1
      · obtain rfl : m = k := by simpa using hm
        exact wpOp_mono (fun a' w' h' => ⟨hS w' h'.1, wpAnyH_of_P hrefl htr hs hQ r f _ a' w' S h3 (by omega) (fun w'' h'' => hS w'' (htr _ _ _ h'.1 h'')) h'.2⟩) h.2.2
theorem wp_region_P {id : Nat} {a : Act} {w : World} (p : Plan) (R : World → World → Prop) (hm : P.follows .mixedOrders = true) (hs : Region.noSelect ops = true) (hok : planOk ops p (Array.replicate ops.size false) = true) (hl : p.depth ≤ ops.size)
    (hrefl : ∀ w, R w w) (htr : ∀ a b c, R a b → R b c → R a c) (hQ : ∀ (d : Option Tmp) (v : Value) c a w, Q (.panic c) (a.put d v) w → Q (.panic c) a w)
    (h : wpP P ops Q R p a w.drew) : (Code.region id ops true).wp P Q a w :=
  wp_region_held (S := fun _ => True) hm (wpAnyH_of_P hrefl htr hs hQ p _ _ _ _ _ hok hl (fun _ _ => trivial) h)
/-- operation i is carried out, then the plan p -/
def Loud (P : Program) (ops : Array Oper) (Q : Exit → Act → World → Prop) (R : World → World → Prop) (i : Nat) (p : Plan) (a : Act) (w : World) : Prop := wpOp P ops Q i (fun a' w' => R w w' ∧ wpP P ops Q R p a' w') a w
theorem wpP_done {a : Act} {w : World} (h : Q .normal a w) : wpP P ops Q R .done a w := h
theorem wpP_one {i : Nat} {p : Plan} {a : Act} {w : World} (h : Loud P ops Q R i p a w) : wpP P ops Q R (.one i p) a w := h
theorem wpP_two {i j : Nat} {p q : Plan} {a : Act} {w : World} (h : Loud P ops Q R i p a w) (h2 : Loud P ops Q R j q a w) : wpP P ops Q R (.two i p j q) a w := ⟨h, h2⟩
theorem wpP_three {i j k : Nat} {p q r : Plan} {a : Act} {w : World} (h : Loud P ops Q R i p a w) (h2 : Loud P ops Q R j q a w) (h3 : Loud P ops Q R k r a w) : wpP P ops Q R (.three i p j q k r) a w := ⟨h, h2, h3⟩
theorem below_st {w2 w w' : World} {p : Nat} (h : Below w2.heap.size w2 w) (u : RBut (some p) w w') (hp : w2.heap.size ≤ p) : Below w2.heap.size w2 w' := h.trans (below_but u hp h.size)
theorem wpP_quiet {i : Nat} {p : Plan} {o : Oper} {v : Value} {a : Act} {w : World} (ho : nth ops.toList i = some o) (hw : Region.wanted o (yielded ops a.tmps) = true)
    (hy : ∀ w', R w w' → (execOp a.eval o).run P w' = .ok (.value v) w') (h : wpP P ops Q R p (a.put o.dst v) w) : wpP P ops Q R (.take i p) a w := ⟨o, v, nth_ops ho, .inl ⟨hw, hy⟩, h⟩
theorem wpP_skip {i : Nat} {p : Plan} {o : Oper} {a : Act} {w : World} (ho : nth ops.toList i = some o) (hw : Region.wanted o (yielded ops a.tmps) = false)
    (h : wpP P ops Q R p (a.put o.dst undef) w) : wpP P ops Q R (.take i p) a w := ⟨o, undef, nth_ops ho, .inr ⟨hw, rfl⟩, h⟩
/-- an operation that is carried out -/
theorem wpP_loud {i : Nat} {p : Plan} {o : Oper} {a : Act} {w : World} (ho : nth ops.toList i = some o) (hw : Region.wanted o (yielded ops a.tmps) = true)
    (h : ∀ K : Act → World → Prop, Shut (∀ a' w', R w w' → wpP P ops Q R p a' w' → K a' w') → o.wp P a w K Q) : Loud P ops Q R i p a w := by
  unfold Loud wpOp
  simp only [nth_ops ho, hw, if_true]
  exact .inl (h _ fun a' w' h1 h2 => ⟨h1, h2⟩)
/-- some operations in a row, then a plan -/
def Plan.seq : List (Nat × Bool) → Plan → Plan
  | [], p => p
  | (i, true) :: l, p => .take i (Plan.seq l p)
  | (i, false) :: l, p => .one i (Plan.seq l p)
theorem wpP_load {i : Nat} {p : Plan} {o : Oper} {a : Act} {w : World} (ho : nth ops.toList i = some o) (hw : Region.wanted o (yielded ops a.tmps) = true) (ty : TypeId) (x : Operand) (hop : o.op = .load ty x)
    (b off : Nat) (hx : a.eval x = .pointer (some ⟨b, off, none⟩)) (cs : List Value) (d : TypeDesc) (hS : ∀ w', R w w' → w'.rangeAt b off cs) (hu : P.underlying ty = some d) (hd : d.isRow = true) (hi : (P.info? ty).map (·.size) = some cs.length)
    (h : wpP P ops Q R p (a.put o.dst (.agg cs.toArray)) w) : wpP P ops Q R (.take i p) a w :=
  ⟨o, _, nth_ops ho, yieldsIf_load_mid hw ty x hop b off hx cs d hS hu hd hi, h⟩
theorem wpP_val {i : Nat} {p : Plan} {o : Oper} {v : Value} {a : Act} {w : World} (hrefl : ∀ w, R w w) (ho : nth ops.toList i = some o) (hw : Region.wanted o (yielded ops a.tmps) = true)
    (hy : (execOp a.eval o).run P w = .ok (.value v) w) (h : wpP P ops Q R p (a.put o.dst v) w) : wpP P ops Q R (.one i p) a w := by
  show wpOp P ops Q i (fun a' w' => R w w' ∧ wpP P ops Q R p a' w') a w
  unfold wpOp
  simp only [nth_ops ho, hw, if_true]
  refine .inl ?_
  unfold Oper.wp
  rw [hy]
  exact ⟨hrefl w, h⟩
theorem wpP_skip' {i : Nat} {p : Plan} {o : Oper} {a : Act} {w : World} (hrefl : ∀ w, R w w) (ho : nth ops.toList i = some o) (hw : Region.wanted o (yielded ops a.tmps) = false)
    (h : wpP P ops Q R p (a.put o.dst undef) w) : wpP P ops Q R (.one i p) a w := by
  show wpOp P ops Q i (fun a' w' => R w w' ∧ wpP P ops Q R p a' w') a w
  unfold wpOp
  simp only [nth_ops ho, hw, Bool.false_eq_true, if_false]
  exact ⟨hrefl w, h⟩
theorem wpP_load_f {i : Nat} {p : Plan} {o : Oper} {a : Act} {w : World} (hrefl : ∀ w, R w w) (ho : nth ops.toList i = some o) (hw : Region.wanted o (yielded ops a.tmps) = true) (ty : TypeId) (x : Operand) (hop : o.op = .load ty x)
    (b off : Nat) (hx : a.eval x = .pointer (some ⟨b, off, none⟩)) (cs : List Value) (d : TypeDesc) (hc : w.rangeAt b off cs) (hu : P.underlying ty = some d) (hd : d.isRow = true) (hi : (P.info? ty).map (·.size) = some cs.length)
    (h : wpP P ops Q R p (a.put o.dst (.agg cs.toArray)) w) : wpP P ops Q R (.one i p) a w := by
  show wpOp P ops Q i (fun a' w' => R w w' ∧ wpP P ops Q R p a' w') a w
  unfold wpOp
  simp only [nth_ops ho, hw, if_true]
  refine .inl ?_
  refine wp_load_mid ty x hop b off hx cs d hc hu hd hi ?_
  exact ⟨hrefl w, h⟩
end
end Go.Proofs.Ytdopgooglicaiaa
/- Regions by a plan: what is built; one step and no more; sums that are one. -/
set_option linter.unusedSimpArgs false
set_option linter.unusedVariables false
namespace Go.Proofs.Ytdopgooglicaiaa
open Go.RowKit
set_option maxRecDepth 100000
section
variable {P : Program} {ops : Array Oper} {Q : Exit → Act → World → Prop} {R : World → World → Prop}
theorem wpP_build {i : Nat} {p : Plan} {o : Oper} {a : Act} {w : World} (ho : nth ops.toList i = some o) (hw : Region.wanted o (yielded ops a.tmps) = true) (t : TypeId) (parts : Array (Nat × Operand)) (hop : o.op = .build t parts)
    (cells : Array Value) (hf : P.built t (parts.toList.map fun x => (x.1, a.eval x.2)) = some cells) (h : wpP P ops Q R p (a.put o.dst (.agg cells)) w) : wpP P ops Q R (.take i p) a w := by
  refine wpP_quiet (v := .agg cells) ho hw (fun w' _ => ?_) h
  unfold execOp
  simp only [hop, run_build w' t _ cells (by rw [Array.toList_map]; exact hf), Sem.run_bind, Result.andThen_ok, Sem.run_pure]
end
theorem eq_self (a : List UInt8) (ha : a.length = 32) (w : World) : (Op.equalIn 10000 25 (.agg (B8 a).toArray) (.agg (B8 a).toArray)).run Try.prog w = .ok true w := by
  rw [eq_hash a a ha ha w]
  simp
theorem eq_other (a b : List UInt8) (ha : a.length = 32) (hb : b.length = 32) (h : a ≠ b) (w : World) : (Op.equalIn 10000 25 (.agg (B8 a).toArray) (.agg (B8 b).toArray)).run Try.prog w = .ok false w := by
  rw [eq_hash a b ha hb w, decide_eq_false h]
end Go.Proofs.Ytdopgooglicaiaa
/- The walk of court.own. -/
set_option linter.unusedSimpArgs false
set_option linter.unusedVariables false
namespace Go.Proofs.Ytdopgooglicaiaa
open Go.RowKit
set_option maxRecDepth 100000
theorem co_store {w : World} {b : Nat} {t : TypeId} {cs ds : List Value} {i : Nat} {u : Value} (h : Blk w b t cs) (hi : i < cs.length) (hp : put_ cs i [u] = ds) : Blk (w.setCell ⟨b, i, none⟩ u) b t ds := by
  rw [← hp, put_one _ _ _ hi]
  exact h.set_ i u
theorem snd_get {α β : Type} {l : List (α × β)} {m : List β} (h : l.map (·.2) = m) {q : Nat} {x : β} (hq : m[q]? = some x) : ∃ v, l[q]? = some (v, x) := by
  rw [← h, List.getElem?_map] at hq
  cases hp : l[q]? with
  | none => rw [hp] at hq; cases hq
  | some p =>
    rw [hp] at hq
    injection hq with hq
    exact ⟨p.1, by rw [← hq]⟩
theorem mem_snd {α β : Type} {l : List (α × β)} {m : List β} (h : l.map (·.2) = m) {p : α × β} (hp : p ∈ l) : p.2 ∈ m := by
  rw [← h]
  exact List.mem_map_of_mem hp
theorem set_snd {α β : Type} {l : List (α × β)} {m : List β} (h : l.map (·.2) = m) {q : Nat} {u v : α} {x : β} (hq : l[q]? = some (u, x)) : (l.set q (v, x)).map (·.2) = m := by
  rw [← h, List.map_set]
  obtain ⟨hlt, he⟩ := List.getElem?_eq_some_iff.1 hq
  apply List.ext_getElem? fun i => ?_
  by_cases hi : q = i
  · subst hi
    rw [List.getElem?_set_self (by simpa using hlt), List.getElem?_map, hq]
    rfl
  · rw [List.getElem?_set_ne hi]
theorem row_ne {w : World} {B n c k : Nat} {e : TypeId} {A : Option Addr} {xs : List Value} (o : Own w B e k A n c xs) {b : Nat} (hb : b < B) : some b ≠ A.map (·.block) := fun h => by
  have := (o.lt b h.symm).1
  omega
def zeroCC : List Value := coC (.slice none 0 0) (.slice none 0 0) ⟨0, zero32, [], [0, 0, 0, 0, 0, 0, 0, 0], []⟩
theorem zeroCC_len : zeroCC.length = 43 := rfl
set_option maxRecDepth 100000 in
set_option maxHeartbeats 4000000 in
theorem ownC_any (v : Value) (c : CO) (hc : c.ok) (w : World) (h : CoX [] w v c) : Calls Try.prog 30 #[v] w (RCo w c) := by
  obtain ⟨vt, vc, rfl, ⟨At, nt, ct, rfl, slt, hnt, _, _⟩, ⟨Ac, n, cc, l, rfl, slc, hml, hln, _, _, hsu⟩⟩ := h
  obtain ⟨W, HW, hbw, bp, bz⟩ : ∃ W, Hid (W = (w.alloc (.cells (coC (.slice At nt ct) (.slice Ac n cc) c).toArray 30)).alloc (.cells #[.int .i64 0, .int .u8 0, .int .u8 0, .int .u8 0, .int .u8 0, .int .u8 0, .int .u8 0, .int .u8 0, .int .u8 0, .int .u8 0, .int .u8 0, .int .u8 0, .int .u8 0, .int .u8 0, .int .u8 0, .int .u8 0, .int .u8 0, .int .u8 0, .int .u8 0, .int .u8 0, .int .u8 0, .int .u8 0, .int .u8 0, .int .u8 0, .int .u8 0, .int .u8 0, .int .u8 0, .int .u8 0, .int .u8 0, .int .u8 0, .int .u8 0, .int .u8 0, .int .u8 0, .slice none 0 0, .int .i64 0, .int .i64 0, .int .i64 0, .int .i64 0, .int .i64 0, .int .i64 0, .int .i64 0, .int .i64 0, .slice none 0 0] 30)) ∧ Below w.heap.size w W ∧
      Blk W w.heap.size 30 (coC (.slice At nt ct) (.slice Ac n cc) c) ∧ Blk W (w.heap.size + 1) 30 zeroCC := by
    refine ⟨_, rfl, ((Below.refl _ _).alloc (Nat.le_refl _) _).alloc (by simp) _, ?_, ?_⟩
    · exact (Blk.new w (coC (.slice At nt ct) (.slice Ac n cc) c).toArray 30).to ((Below.refl _ _).alloc (Nat.le_refl _) _)
    · have := Blk.new (w.alloc (.cells (coC (.slice At nt ct) (.slice Ac n cc) c).toArray 30)) #[.int .i64 0, .int .u8 0, .int .u8 0, .int .u8 0, .int .u8 0, .int .u8 0, .int .u8 0, .int .u8 0, .int .u8 0, .int .u8 0, .int .u8 0, .int .u8 0, .int .u8 0, .int .u8 0, .int .u8 0, .int .u8 0, .int .u8 0, .int .u8 0, .int .u8 0, .int .u8 0, .int .u8 0, .int .u8 0, .int .u8 0, .int .u8 0, .int .u8 0, .int .u8 0, .int .u8 0, .int .u8 0, .int .u8 0, .int .u8 0, .int .u8 0, .int .u8 0, .int .u8 0, .slice none 0 0, .int .i64 0, .int .i64 0, .int .i64 0, .int .i64 0, .int .i64 0, .int .i64 0, .int .i64 0, .int .i64 0, .slice none 0 0] 30
      rw [show (w.alloc (.cells (coC (.slice At nt ct) (.slice Ac n cc) c).toArray 30)).heap.size = w.heap.size + 1 from by simp] at this
      exact this
  have HC := Lib.hid hc
  have HML := Lib.hid hml
  have HLN := Lib.hid hln
  have HNT := Lib.hid hnt
  have HSU := Lib.hid hsu
  have hWz := bz.lt
  have hnm : n ≤ 4096 := by
    have := hc.m
    rw [← hml, List.length_map] at this
    omega
  have hntm : nt ≤ 4194304 := by have := hc.n; omega
  have hlen : (coC (.slice At nt ct) (.slice Ac n cc) c).length = 43 := coC_len hc.pre hc.bank
  clear hml hln hnt hsu hc
  go_enter Try.func30, Try.ntmps30
  go_upto_region 1 with fail
  refine wp_at HW.out ?_
  clear HW
  have k33 : W.cell? ⟨w.heap.size, 33, none⟩ = some (.slice At nt ct) := by rw [bp.cell]; exact co_txs HC.out.pre
  go_wp2_with fail
  refine (hashes_copy At nt ct c.txs W (slt.to hbw) hntm).mono ?_
  rintro e w1 ⟨rfl, bT, hb1⟩
  have bp1 := bp.to hb1
  have bz1 := bz.to hb1
  have f1 := hbw.trans (hb1.mono hbw.size)
  have fz1 := bp1.fz 33
  have k1 : w1.cell? ⟨w.heap.size, 33, none⟩ = some (.slice At nt ct) := by rw [bp1.cell]; exact co_txs HC.out.pre
  have k2 : w1.cell? ⟨w.heap.size, 42, none⟩ = some (.slice Ac n cc) := by rw [bp1.cell]; exact co_claims HC.out.pre HC.out.bank
  clear bp bz k33 hb1 hbw
  go_wp2_with fail
  obtain ⟨T, hT⟩ : ∃ T, W.heap.size = T := ⟨_, rfl⟩
  rw [hT] at bT ⊢
  have hTw : w.heap.size + 1 < T := by rw [← hT]; exact hWz
  clear hT hWz
  have bp2 : Blk (w1.setCell ⟨w.heap.size, 33, none⟩ (.slice (some ⟨T, 0, none⟩) nt nt)) w.heap.size 30 (coC (.slice (some ⟨T, 0, none⟩) nt nt) (.slice Ac n cc) c) := co_store bp1 (by omega) (put_txs HC.out.pre c.txs)
  have u2 : RBut (some w.heap.size) w1 (w1.setCell ⟨w.heap.size, 33, none⟩ (.slice (some ⟨T, 0, none⟩) nt nt)) := RBut.setC _ _ _ _
  generalize w1.setCell ⟨w.heap.size, 33, none⟩ (.slice (some ⟨T, 0, none⟩) nt nt) = w2 at *
  have bz2 := bz1.but u2 (by intro e; injection e; omega)
  have bT2 := bT.but u2 (by intro e; injection e; omega)
  have f2 := f1.trans (below_but u2 (Nat.le_refl _) f1.size)
  have hcl1 : ∀ p ∈ l, ∀ u ∈ clF p, u.oneCell' = true := fun p hp => clF_one (HSU.out p hp).one
  clear bp1 bz1 bT f1 u2 fz1 k1 k2
  refine (clone_C Ac n cc (rows clF l) w2 (slc.to f2) (rows_one' l hcl1) (by omega)).mono ?_
  rintro e w3 ⟨A, n', c', rfl, ow, hb3⟩
  have hr : ∀ a ∈ l, (clF a).length = 37 := fun a ha => clF_len (HC.out.claims a.2 (mem_snd HML.out ha)).root
  obtain rfl : n' = n := by
    have := ow.len
    rw [rows_len' l hr, HLN.out] at this
    omega
  have HR := Lib.hid hr
  have hTs := bT2.lt
  replace ow := ow.mono (B' := T + 1) (by omega)
  have bp3 := bp2.to hb3
  have bz3 := bz2.to hb3
  have bT3 := bT2.to hb3
  have f3 := f2.trans (hb3.mono f2.size)
  have fz3 := bp3.fz 42
  have k3 : w3.cell? ⟨w.heap.size, 42, none⟩ = some (.slice Ac n' cc) := by rw [bp3.cell]; exact co_claims HC.out.pre HC.out.bank
  clear bp2 bz2 bT2 hb3 f2 hcl1 hr slt hTs
  go_wp2_with fail
  have bp4 : Blk (w3.setCell ⟨w.heap.size, 42, none⟩ (.slice A n' c')) w.heap.size 30 (coC (.slice (some ⟨T, 0, none⟩) nt nt) (.slice A n' c') c) := co_store bp3 (by rw [coC_len HC.out.pre HC.out.bank]; omega) (put_claims HC.out.pre HC.out.bank c.claims)
  have u4 : RBut (some w.heap.size) w3 (w3.setCell ⟨w.heap.size, 42, none⟩ (.slice A n' c')) := RBut.setC _ _ _ _
  generalize w3.setCell ⟨w.heap.size, 42, none⟩ (.slice A n' c') = w4 at *
  have bz4 := bz3.but u4 (by intro e; injection e; omega)
  have bT4 := bT3.but u4 (by intro e; injection e; omega)
  have ow4 := own_but ow u4 (fun k hk => by injection hk; omega)
  have f4 := f3.trans (below_but u4 (Nat.le_refl _) f3.size)
  clear bp3 bz3 bT3 ow f3 u4 fz3 k3 hlen
  clear slc
  have HPR := Lib.hid (And.intro HC.out.pre HC.out.bank)
  go_loopw [18] (fun k wr => ∃ (q : Nat) (l' : List (Value × CL)), k = .int .i64 (q : Int) ∧ q ≤ n' ∧ Own wr (T + 1) 39 37 A n' c' (rows clF l') ∧ Hid (l'.map (·.2) = c.claims) ∧ Hid (l'.length = n') ∧ Hid (∀ i p, l'[i]? = some p → q ≤ i → SuX [] w p.1 p.2.suits) ∧
    Hid (∀ i p, l'[i]? = some p → i < q → SuO wr (bnd A) p.1 p.2.suits) ∧ Blk wr w.heap.size 30 (coC (.slice (some ⟨T, 0, none⟩) nt nt) (.slice A n' c') c) ∧ Blk wr (w.heap.size + 1) 30 zeroCC ∧ Blk wr T 25 (H8 c.txs) ∧ Below w.heap.size w wr) (fun k _ => n' - (intOf k).toNat)
  case atStart => exact ⟨0, l, rfl, Nat.zero_le _, ow4, HML, HLN, (show ∀ i p, l[i]? = some p → 0 ≤ i → SuX [] w p.1 p.2.suits from fun i p hp _ => HSU.out p (List.mem_of_getElem? hp)), (show ∀ i p, l[i]? = some p → i < 0 → SuO w4 (bnd A) p.1 p.2.suits from fun i p _ h => absurd h (Nat.not_lt_zero i)), bp4, bz4, bT4, f4⟩
  case round =>
    clear ow4 bp4 bz4 bT4 f4
    obtain ⟨q, l', rfl, hq, ow, HM, HL, HO, HN, bp, bz, bT, hf⟩ := hrel
    by_cases hlt : q < n'
    · have t1 : (q : Int) < (n' : Int) := by omega
      obtain ⟨x, hx⟩ : ∃ x, c.claims[q]? = some x := ⟨_, List.getElem?_eq_getElem (by have := HL.out; rw [← List.length_map (f := (·.2)), HM.out] at this; omega)⟩
      have HXM := Lib.hid (List.mem_of_getElem? hx)
      obtain ⟨vq, hvq⟩ := snd_get HM.out hx
      have HQ := Lib.hid hvq
      obtain ⟨As, ns, cs, ls, rfl, sls, hmls, hlns, _, _, hsl⟩ := HO.out q _ hvq (Nat.le_refl _)
      have HXO : Hid x.ok := HC.out.claims x HXM.out
      have HMLS := Lib.hid hmls
      have HLNS := Lib.hid hlns
      have HSL := Lib.hid hsl
      have hnsm : ns ≤ 4096 := by
        have := HXO.out.n
        rw [← HMLS.out, List.length_map] at this
        have := HLNS.out
        omega
      clear hmls hlns hsl hx hvq
      have HLE := Lib.hid ow.le
      obtain ⟨CB, rest, rfl, hCB, bk, hrl⟩ := own_row ow (by omega)
      have hr : ∀ a ∈ l', (clF a).length = 37 := fun a ha => clF_len (HC.out.claims a.2 (mem_snd HM.out ha)).root
      have HR' := Lib.hid hr
      have rg := bk.sub (q * 37) (clF (.slice As ns cs, x)) (rows_row l' hr rest HQ.out)
      have IX := Lib.hid (info_cl (p := (.slice As ns cs, x)) HXO.out.root)
      have HRL := Lib.hid hrl
      clear hr hrl ow
      go_wp2_with (first
        | (refine wpl_load_fld (by rfl) _ _ rfl CB (q * 37) rfl (clF (.slice As ns cs, x)) _ rg Try.underlying39 rfl IX.out ?_)
        | (refine wpl_store_new rfl _ _ _ rfl 39 _ (clF (.slice As ns cs, x)) rfl rfl (by rw [clF_len HXO.out.root]; rfl) IX.out (clF_one rfl) ?_
           intro w5 bX hb5
           simp only [Act.put, List.setIfInBounds_toArray, List.set_cons_zero, List.set_cons_succ]
           have k36 : w5.cell? ⟨wr.heap.size, 36, none⟩ = some (.slice As ns cs) := by rw [bX.cell]; exact cl_suits HXO.out.root))
      have hX := bX.lt
      have hwX : w.heap.size ≤ wr.heap.size := hf.size
      have f5 := hf.trans (hb5.mono hwX)
      have hgl : ∀ p ∈ ls, GLen p.2.g := fun p hp => (HXO.out.suits p.2 (mem_snd HMLS.out hp)).g
      have HGL := Lib.hid hgl
      have h1s : ∀ p ∈ ls, ∀ u ∈ suF p, u.oneCell' = true := fun p hp => suF_one (HSL.out p hp).one
      refine (clone_S As ns cs (rows suF ls) w5 (sls.to f5) (rows_one' ls h1s) (by omega)).mono ?_
      rintro e w6 ⟨A5, n5, c5, rfl, ow6, hb6⟩
      obtain rfl : n5 = ns := by
        have := ow6.len
        rw [rows_len' ls (fun a ha => suF_len (HGL.out a ha)), HLNS.out] at this
        omega
      have bX6 := bX.to hb6
      have fz6 := bX6.fz 36
      have k6 : w6.cell? ⟨wr.heap.size, 36, none⟩ = some (.slice As n5 cs) := by rw [bX6.cell]; exact cl_suits HXO.out.root
      clear hgl h1s k36 bX sls
      go_wp2_with fail
      have bX7 : Blk (w6.setCell ⟨wr.heap.size, 36, none⟩ (.slice A5 n5 c5)) wr.heap.size 39 (clF (.slice A5 n5 c5, x)) := co_store bX6 (by rw [clF_len HXO.out.root]; omega) (put_suits HXO.out.root x.suits)
      have u7 : RBut (some wr.heap.size) w6 (w6.setCell ⟨wr.heap.size, 36, none⟩ (.slice A5 n5 c5)) := RBut.setC _ _ _ _
      generalize w6.setCell ⟨wr.heap.size, 36, none⟩ (.slice A5 n5 c5) = w7 at *
      have ow7 := own_but ow6 u7 (fun k hk => by injection hk; omega)
      have h7 : Below wr.heap.size wr w7 := (hb5.trans (hb6.mono (Nat.le_of_lt hX))).trans (below_but u7 (Nat.le_refl _) (Nat.le_trans (Nat.le_of_lt hX) hb6.size))
      have h5w7 : w5.heap.size ≤ w7.heap.size := Nat.le_trans hb6.size u7.size
      clear bX6 u7 ow6 hb6 hb5 fz6 k6 f5 rg
      have hf7 : Below w.heap.size w w7 := hf.trans (h7.mono hwX)
      have bk7 := bk.to h7
      have bp7 := bp.to h7
      have bz7 := bz.to h7
      have bT7 := bT.to h7
      have HNf : Hid (∀ w', Below wr.heap.size wr w' → ∀ i p, l'[i]? = some p → i < q → SuO w' (bnd (some ⟨CB, 0, none⟩)) p.1 p.2.suits) := (show ∀ w', Below wr.heap.size wr w' → ∀ i p, l'[i]? = some p → i < q → SuO w' (bnd (some ⟨CB, 0, none⟩)) p.1 p.2.suits from fun w' hb i p hp hi => (HN.out i p hp hi).to hb)
      have hCX := bk.lt
      have hTX := bT.lt
      have hPX := bz.lt
      clear bk bp bz bT HN hf
      generalize wr.heap.size = X at *
      go_loopw [30] (fun k wi => ∃ (r : Nat) (ls' : List (Value × SU)), k = .int .i64 (r : Int) ∧ r ≤ n5 ∧ Own wi w5.heap.size 44 106 A5 n5 c5 (rows suF ls') ∧ Hid (ls'.map (·.2) = x.suits) ∧ Hid (ls'.length = n5) ∧ Hid (∀ i p, ls'[i]? = some p → r ≤ i → HsX [] w p.1 p.2.hs) ∧
        Hid (∀ i p, ls'[i]? = some p → i < r → HsO wi (bnd A5) p.1 p.2.hs) ∧ RBut (A5.map (·.block)) w7 wi) (fun k _ => n5 - (intOf k).toNat)
      case atStart => exact ⟨0, ls, rfl, Nat.zero_le _, ow7, HMLS, HLNS, (show ∀ i p, ls[i]? = some p → 0 ≤ i → HsX [] w p.1 p.2.hs from fun i p hp _ => HSL.out p (List.mem_of_getElem? hp)), (show ∀ i p, ls[i]? = some p → i < 0 → HsO w7 (bnd A5) p.1 p.2.hs from fun i p _ h => absurd h (Nat.not_lt_zero i)), RBut.refl_ _ _⟩
      case round =>
        clear ow7
        obtain ⟨r, ls', rfl, hr, owi, HMi, HLi, HOi, HNi, hui⟩ := hrel
        by_cases hlr : r < n5
        · have t2 : (r : Int) < (n5 : Int) := by omega
          obtain ⟨s, hs⟩ : ∃ s, x.suits[r]? = some s := ⟨_, List.getElem?_eq_getElem (by have := HLi.out; rw [← List.length_map (f := (·.2)), HMi.out] at this; omega)⟩
          have HSO : Hid s.ok := HXO.out.suits s (List.mem_of_getElem? hs)
          obtain ⟨vr, hvr⟩ := snd_get HMi.out hs
          have HQi := Lib.hid hvr
          obtain ⟨Aq, nq, cq, rfl, slq, hnq, _, _⟩ := HOi.out r _ hvr (Nat.le_refl _)
          have hnq2 : Hid (s.hs.length = nq) := hnq
          have hnqm : nq ≤ 4194304 := by
            have h1 := HSO.out.n
            have h2 : s.hs.length = nq := hnq
            omega
          clear hvr hs hnq
          have hle5 := owi.le
          obtain ⟨SB, rest5, rfl, hSB, bk5, hrl5⟩ := own_row owi (by omega)
          have hgi : ∀ a ∈ ls', (suF a).length = 106 := fun a ha => suF_len (HXO.out.suits a.2 (mem_snd HMi.out ha)).g
          have HGi := Lib.hid hgi
          have rg5 := bk5.sub (r * 106) (suF (.slice Aq nq cq, s)) (rows_row ls' hgi rest5 HQi.out)
          have IS := Lib.hid (info_su (p := (.slice Aq nq cq, s)) HSO.out.g)
          have HRL5 := Lib.hid hrl5
          have hc5 := hle5.1
          have hui1 : RBut (some SB) w7 wr := hui
          have hcm5 := hle5.2
          have bXi := bX7.but hui1 (by intro e; injection e with e; omega)
          have fi : Below w.heap.size w wr := hf7.trans (below_but hui1 (by omega) (by omega))
          have slqi := slq.to fi
          clear hgi hrl5 owi hle5 slq
          go_wp2_with (first
            | (refine wpl_load_fld (by rfl) _ _ rfl SB (r * 106) rfl (suF (.slice Aq nq cq, s)) _ rg5 Try.underlying44 rfl IS.out ?_)
            | (refine wpl_store_new rfl _ _ _ rfl 44 _ (suF (.slice Aq nq cq, s)) rfl rfl (by rw [suF_len HSO.out.g]; rfl) IS.out (suF_one rfl) ?_
               intro w8 bY hb8
               simp only [Act.put, List.setIfInBounds_toArray, List.set_cons_zero, List.set_cons_succ]))
          have bk8 := bk5.to hb8
          have hXS : Hid (some X ≠ some SB) := (show _ ≠ _ by intro e; injection e with e; omega)
          have hSw := bk5.lt
          obtain ⟨Y, hY⟩ : ∃ Y, wr.heap.size = Y := ⟨_, rfl⟩
          have hYS : Hid (some Y ≠ some SB) := (show _ ≠ _ by intro e; injection e with e; omega)
          have bX8 := bXi.to hb8
          have slq8 := slqi.to hb8
          have u8 : RBut (some SB) wr w8 := RBut.of_below hb8
          rw [hY] at bY ⊢
          clear hY bk5 rg5 bXi slqi hb8
          refine wp_region_P (.take 0 (.take 1 (.take 2 (.take 3 (.take 4 (.take 5 (.one 6 (.take 7 (.take 8 (.take 9 (.one 10 .done))))))))))) (RBut (some SB)) (by kernel_rfl) (by kernel_rfl) (by kernel_rfl) (by decide +kernel) (RBut.refl_ _) (RBut.trans_ _) (by intro d v c a w h; first | (cases d <;> exact h) | exact absurd h.1 (by simp)) ?_
          have bXv : Blk w8.drew X 39 (clF (.slice (some ⟨SB, 0, none⟩) n5 c5, x)) := bX8
          have bYv : Blk w8.drew Y 44 (suF (.slice Aq nq cq, s)) := bY
          have bkv : Blk w8.drew SB 44 (rows suF ls' ++ rest5) := bk8
          have slv : Sl w8.drew 32 Aq nq (H8 s.hs) := slq8.drew
          have uv : RBut (some SB) wr w8.drew := RBut.trans_ _ _ _ _ u8 (RBut.of_below (Below.refl _ _).drew)
          clear bY bk8 slq8 u8 bX8
          generalize w8.drew = V0 at *
          first | (refine wpP_quiet (v := ?_) rfl (by rfl) ?_ ?_; rotate_left; (· (intro w' hw'; go_simp; try with_reducible rfl)); simp only [Act.put, List.setIfInBounds_toArray, List.set_cons_zero, List.set_cons_succ]) | (refine wpP_skip rfl (by rfl) ?_; simp only [Act.put, List.setIfInBounds_toArray, List.set_cons_zero, List.set_cons_succ])
          refine wpP_quiet (v := .slice (some ⟨SB, 0, none⟩) n5 c5) rfl (by rfl) (fun w' hw' => by (have kq : w'.cell? ⟨X, 36, none⟩ = some (.slice (some ⟨SB, 0, none⟩) n5 c5) := (by rw [(bXv.but hw' hXS.out).cell]; exact cl_suits HXO.out.root); go_simp; try with_reducible rfl)) ?_
          simp only [Act.put, List.setIfInBounds_toArray, List.set_cons_zero, List.set_cons_succ]
          first | (refine wpP_quiet (v := ?_) rfl (by rfl) ?_ ?_; rotate_left; (· (intro w' hw'; go_simp; try with_reducible rfl)); simp only [Act.put, List.setIfInBounds_toArray, List.set_cons_zero, List.set_cons_succ]) | (refine wpP_skip rfl (by rfl) ?_; simp only [Act.put, List.setIfInBounds_toArray, List.set_cons_zero, List.set_cons_succ])
          first | (refine wpP_quiet (v := ?_) rfl (by rfl) ?_ ?_; rotate_left; (· (intro w' hw'; go_simp; try with_reducible rfl)); simp only [Act.put, List.setIfInBounds_toArray, List.set_cons_zero, List.set_cons_succ]) | (refine wpP_skip rfl (by rfl) ?_; simp only [Act.put, List.setIfInBounds_toArray, List.set_cons_zero, List.set_cons_succ])
          first | (refine wpP_quiet (v := ?_) rfl (by rfl) ?_ ?_; rotate_left; (· (intro w' hw'; go_simp; try with_reducible rfl)); simp only [Act.put, List.setIfInBounds_toArray, List.set_cons_zero, List.set_cons_succ]) | (refine wpP_skip rfl (by rfl) ?_; simp only [Act.put, List.setIfInBounds_toArray, List.set_cons_zero, List.set_cons_succ])
          refine wpP_quiet (v := .slice Aq nq cq) rfl (by rfl) (fun w' hw' => by (have kq : w'.cell? ⟨Y, 1, none⟩ = some (.slice Aq nq cq) := (by rw [(bYv.but hw' hYS.out).cell]; exact su_txs); go_simp; try with_reducible rfl)) ?_
          simp only [Act.put, List.setIfInBounds_toArray, List.set_cons_zero, List.set_cons_succ]
          refine wpP_one ?_
          refine wpP_loud rfl (by rfl) ?_
          intro K hK
          go_simp
          refine (hashes_copy Aq nq cq s.hs _ slv hnqm).mono ?_
          rintro e Vn ⟨rfl, bN, hbn⟩
          refine hK.out _ _ (RBut.of_below hbn) ?_
          clear hK K
          try simp only [Act.put, List.setIfInBounds_toArray, List.set_cons_zero, List.set_cons_succ]
          have bkn := bkv.to hbn
          have fzS := bkn.fz (r * 106 + 1)
          have kS : Vn.cell? ⟨SB, r * 106 + 1, none⟩ = some (.slice Aq nq cq) := by rw [bkn.cell]; exact rows_get ls' HGi.out rest5 HQi.out (by decide)
          first | (refine wpP_quiet (v := ?_) rfl (by rfl) ?_ ?_; rotate_left; (· (intro w' hw'; go_simp; try with_reducible rfl)); simp only [Act.put, List.setIfInBounds_toArray, List.set_cons_zero, List.set_cons_succ]) | (refine wpP_skip rfl (by rfl) ?_; simp only [Act.put, List.setIfInBounds_toArray, List.set_cons_zero, List.set_cons_succ])
          first | (refine wpP_quiet (v := ?_) rfl (by rfl) ?_ ?_; rotate_left; (· (intro w' hw'; go_simp; try with_reducible rfl)); simp only [Act.put, List.setIfInBounds_toArray, List.set_cons_zero, List.set_cons_succ]) | (refine wpP_skip rfl (by rfl) ?_; simp only [Act.put, List.setIfInBounds_toArray, List.set_cons_zero, List.set_cons_succ])
          first | (refine wpP_quiet (v := ?_) rfl (by rfl) ?_ ?_; rotate_left; (· (intro w' hw'; go_simp; try with_reducible rfl)); simp only [Act.put, List.setIfInBounds_toArray, List.set_cons_zero, List.set_cons_succ]) | (refine wpP_skip rfl (by rfl) ?_; simp only [Act.put, List.setIfInBounds_toArray, List.set_cons_zero, List.set_cons_succ])
          refine wpP_one ?_
          refine wpP_loud rfl (by rfl) ?_
          intro K hK
          go_simp
          refine hK.out _ _ (RBut.setC _ _ _ _) ?_
          clear hK K
          try simp only [Act.put, List.setIfInBounds_toArray, List.set_cons_zero, List.set_cons_succ]
          refine wpP_done ?_
          have bke : Blk (Vn.setCell ⟨SB, r * 106 + 1, none⟩ (.slice (some ⟨V0.heap.size, 0, none⟩) nq nq)) SB 44 (rows suF (ls'.set r ((.slice (some ⟨V0.heap.size, 0, none⟩) nq nq), s)) ++ rest5) := co_store bkn (by
            have := rows_len' ls' HGi.out
            rw [List.length_append, this, HLi.out]
            have : r * 106 + 106 ≤ n5 * 106 := by omega
            omega) (rows_put ls' HGi.out rest5 HQi.out 1 [(.slice (some ⟨V0.heap.size, 0, none⟩) nq nq)] (put_stxs s.hs) (by simp))
          have ue : RBut (some SB) wr (Vn.setCell ⟨SB, r * 106 + 1, none⟩ (.slice (some ⟨V0.heap.size, 0, none⟩) nq nq)) := RBut.trans_ _ _ _ _ (RBut.trans_ _ _ _ _ uv (RBut.of_below hbn)) (RBut.setC _ _ _ _)
          have bNe : Blk (Vn.setCell ⟨SB, r * 106 + 1, none⟩ (.slice (some ⟨V0.heap.size, 0, none⟩) nq nq)) V0.heap.size 25 (H8 s.hs) := bN.but (RBut.setC _ _ _ _) (by intro e; injection e with e; have := bkv.lt; omega)
          have hSV := bkv.lt
          generalize Vn.setCell ⟨SB, r * 106 + 1, none⟩ (.slice (some ⟨V0.heap.size, 0, none⟩) nq nq) = we at *
          clear bkn bN fzS kS
          have hgs : ∀ a ∈ ls'.set r ((.slice (some ⟨V0.heap.size, 0, none⟩) nq nq), s), (suF a).length = 106 := fun a ha => by
            rcases List.mem_or_eq_of_mem_set ha with h | h
            · exact HGi.out a h
            · rw [h]; exact suF_len HSO.out.g
          have hxs : (rows suF (ls'.set r ((.slice (some ⟨V0.heap.size, 0, none⟩) nq nq), s))).length = n5 * 106 := by rw [rows_len' _ hgs, List.length_set, HLi.out]
          have htot : (rows suF (ls'.set r ((.slice (some ⟨V0.heap.size, 0, none⟩) nq nq), s)) ++ rest5).length = c5 * 106 := by
            have h1 := rows_len' ls' HGi.out
            have h2 := HRL5.out
            rw [List.length_append, h1, HLi.out] at h2
            rw [List.length_append, hxs]
            exact h2
          have owe := own_from bke hxs htot hSB hc5 hcm5
          have HNn : Hid (∀ i p, (ls'.set r ((.slice (some ⟨V0.heap.size, 0, none⟩) nq nq), s))[i]? = some p → i < r + 1 → HsO we (bnd (some ⟨SB, 0, none⟩)) p.1 p.2.hs) := (show ∀ i p, (ls'.set r ((.slice (some ⟨V0.heap.size, 0, none⟩) nq nq), s))[i]? = some p → i < r + 1 → HsO we (bnd (some ⟨SB, 0, none⟩)) p.1 p.2.hs from fun i p hp hi => by
            by_cases hir : i = r
            · subst hir
              rw [List.getElem?_set_self (by rw [HLi.out]; exact hlr)] at hp
              injection hp with hp
              subst hp
              exact ⟨_, nq, nq, rfl, bNe.sl (by rw [H8_len _ HSO.out.hs, hnq2.out, Nat.mul_comm]), hnq2.out, Nat.le_refl _, fun b hb => by injection hb with hb; subst hb; simp only [bnd]; omega⟩
            · rw [List.getElem?_set_ne (fun e => hir e.symm)] at hp
              exact (HNi.out i p hp (by omega)).but ue (by simp only [bnd]; omega))
          clear hgs hxs htot bke
          go_wp2_with fail
          go_roundw
          case rel =>
            exact ⟨r + 1, ls'.set r ((.slice (some ⟨V0.heap.size, 0, none⟩) nq nq), s), by go_num, by omega, owe, (show _ = _ from set_snd HMi.out HQi.out), (show _ = _ by rw [List.length_set]; exact HLi.out), (show ∀ i p, (ls'.set r ((.slice (some ⟨V0.heap.size, 0, none⟩) nq nq), s))[i]? = some p → r + 1 ≤ i → HsX [] w p.1 p.2.hs from fun i p hp hi => HOi.out i p (by rw [List.getElem?_set_ne (by omega)] at hp; exact hp) (by omega)),
              HNn, RBut.trans_ _ _ _ _ hui1 ue⟩
          case measure => simp [intOf]; omega
        · obtain rfl : r = n5 := by omega
          have t2 : ¬ (r : Int) < (r : Int) := by omega
          have nA : ∀ b, b < w5.heap.size → some b ≠ A5.map (·.block) := fun b hb => row_ne owi hb
          have bki := bk7.but hui (nA _ (by omega))
          have bpi := bp7.but hui (nA _ (by omega))
          have bzi := bz7.but hui (nA _ (by omega))
          have bTi := bT7.but hui (nA _ (by omega))
          have bXi := bX7.but hui (nA _ (by omega))
          have HSU5 : Hid (SuO wr (bnd (some ⟨CB, 0, none⟩)) (.slice A5 r c5) x.suits) := (show SuO _ _ _ _ from ⟨A5, r, c5, ls', rfl, owi.mono (by simp only [bnd]; omega), HMi.out, HLi.out, fun p hp => by
            obtain ⟨i, hi, he⟩ := List.mem_iff_getElem.1 hp
            exact HNi.out i p (by rw [List.getElem?_eq_getElem hi, he]) (by rw [HLi.out] at hi; exact hi)⟩)
          have fi : Below w.heap.size w wr := hf7.trans ⟨hui.os, hui.tape, hui.output, hui.size, fun k hk => hui.block k (by omega) (nA k (by omega))⟩
          have HNe := Lib.hid (HNf.out wr (h7.trans ⟨hui.os, hui.tape, hui.output, hui.size, fun k hk => hui.block k (by omega) (nA k (by omega))⟩))
          have k42 : wr.cell? ⟨w.heap.size, 42, none⟩ = some (.slice (some ⟨CB, 0, none⟩) n' c') := by rw [bpi.cell]; exact co_claims HPR.out.1 HPR.out.2
          have IX5 := Lib.hid (info_cl (p := (.slice A5 r c5, x)) HXO.out.root)
          clear bk7 bp7 bz7 bT7 bX7 HNf owi
          go_wp2_with (first
            | (refine wpl_load_fld (by rfl) _ _ rfl X 0 rfl (clF (.slice A5 r c5, x)) _ bXi.range Try.underlying39 rfl IX5.out ?_)
            | (refine wpl_store_fld (by rfl) _ _ _ rfl CB (q * 37) _ _ (clF (.slice A5 r c5, x)) rfl _ rfl rfl bki (by
                 have := rows_len' l' HR'.out
                 rw [List.length_append, this, HL.out, clF_len HXO.out.root]
                 have : q * 37 + 37 ≤ n' * 37 := by omega
                 omega) IX5.out (clF_one rfl) ?_
               intro wz bkz buz))
          have hpz : put_ (rows clF l' ++ rest) (q * 37) (clF (.slice A5 r c5, x)) = rows clF (l'.set q (.slice A5 r c5, x)) ++ rest := rows_put l' HR'.out rest HQ.out 0 _ (put_all _ _ (by rw [clF_len HXO.out.root, clF_len HXO.out.root])) (by rw [clF_len HXO.out.root]; exact Nat.le_refl _)
          rw [hpz] at bkz
          have hgs : ∀ a ∈ l'.set q (.slice A5 r c5, x), (clF a).length = 37 := fun a ha => by
            rcases List.mem_or_eq_of_mem_set ha with h | h
            · exact HR'.out a h
            · rw [h]; exact clF_len HXO.out.root
          have hxs : (rows clF (l'.set q (.slice A5 r c5, x))).length = n' * 37 := by rw [rows_len' _ hgs, List.length_set, HL.out]
          have htot : (rows clF (l'.set q (.slice A5 r c5, x)) ++ rest).length = c' * 37 := by
            have h1 := rows_len' l' HR'.out
            have h2 := HRL.out
            rw [List.length_append, h1, HL.out] at h2
            rw [List.length_append, hxs]
            exact h2
          have owe := own_from bkz hxs htot hCB HLE.out.1 HLE.out.2
          have HNn : Hid (∀ i p, (l'.set q (.slice A5 r c5, x))[i]? = some p → i < q + 1 → SuO wz (bnd (some ⟨CB, 0, none⟩)) p.1 p.2.suits) := (show ∀ i p, (l'.set q (.slice A5 r c5, x))[i]? = some p → i < q + 1 → SuO wz (bnd (some ⟨CB, 0, none⟩)) p.1 p.2.suits from fun i p hp hi => by
            by_cases hir : i = q
            · subst hir
              rw [List.getElem?_set_self (by rw [HL.out]; exact hlt)] at hp
              injection hp with hp
              subst hp
              exact HSU5.out.but buz (by simp only [bnd]; omega)
            · rw [List.getElem?_set_ne (fun e => hir e.symm)] at hp
              exact (HNe.out i p hp (by omega)).but buz (by simp only [bnd]; omega))
          have bpz := bpi.but buz (by intro e; injection e with e; omega)
          have bzz := bzi.but buz (by intro e; injection e with e; omega)
          have bTz := bTi.but buz (by intro e; injection e with e; omega)
          have fz := fi.trans (below_but buz (by omega) fi.size)
          refine ⟨⟨q + 1, l'.set q (.slice A5 r c5, x), by go_num, by omega, owe, (show _ = _ from set_snd HM.out HQ.out), (show _ = _ by rw [List.length_set]; exact HL.out), (show ∀ i p, (l'.set q (.slice A5 r c5, x))[i]? = some p → q + 1 ≤ i → SuX [] w p.1 p.2.suits from fun i p hp hi => HO.out i p (by rw [List.getElem?_set_ne (by omega)] at hp; exact hp) (by omega)), HNn, bpz, bzz, bTz, fz⟩, ?_⟩
          simp [intOf]; omega
    · obtain rfl : q = n' := by omega
      have t1 : ¬ (q : Int) < (q : Int) := by omega
      have ICO := Lib.hid (info_co (vt := .slice (some ⟨T, 0, none⟩) nt nt) (vc := .slice A q c') HPR.out.1 HPR.out.2)
      go_wp2_with (first
        | (refine wpl_load_fld (by rfl) _ _ rfl w.heap.size 0 rfl (coC (.slice (some ⟨T, 0, none⟩) nt nt) (.slice A q c') c) _ bp.range Try.underlying30 rfl ICO.out ?_)
        | (refine wpl_store_fld (by rfl) _ _ _ rfl (w.heap.size + 1) 0 _ _ (coC (.slice (some ⟨T, 0, none⟩) nt nt) (.slice A q c') c) rfl _ rfl rfl bz (by rw [coC_len HPR.out.1 HPR.out.2]; exact Nat.le_refl _) ICO.out (coC_one rfl rfl) ?_
           intro wz bzz buz
           rw [put_all _ _ (by rw [coC_len HPR.out.1 HPR.out.2]; rfl)] at bzz))
      refine bodyPost_ret (v := .agg (coC (.slice (some ⟨T, 0, none⟩) nt nt) (.slice A q c') c).toArray) (results_blk Try.results30 rfl bzz Try.underlying30 rfl ICO.out) rfl ?_
      refine ⟨T, .slice A q c', by rw [HNT.out], by omega, bT.but buz (by intro e; injection e with e; omega), ⟨A, q, c', l', rfl, own_but ow buz (fun k hk => by injection hk with hk; omega), HM.out, HL.out, fun p hp => ?_⟩, hf.trans (below_but buz (by omega) hf.size)⟩
      obtain ⟨i, hi, he⟩ := List.mem_iff_getElem.1 hp
      refine (HN.out i p (by rw [List.getElem?_eq_getElem hi, he]) (by rw [HL.out] at hi; exact hi)).but buz ?_
      cases A with
      | none =>
        have := none_len ow
        have := HL.out
        omega
      | some a =>
        have := (ow.lt a.block rfl).1
        simp only [bnd]
        omega
end Go.Proofs.Ytdopgooglicaiaa
