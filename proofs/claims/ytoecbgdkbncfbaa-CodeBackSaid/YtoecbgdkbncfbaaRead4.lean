/- Walk: the reader's face Hash. -/
import Derived.Test.YtoecbgdkbncfbaaRead3
import Derived.Test.YtoecbgdkbncfbaaRef1
import Derived.Test.YtoecbgdkbncfbaaEqH
import Derived.Deep.Cut
namespace Go.Proofs.Ytoecbgdkbncfbaa
open Go.RowKit
theorem array_at (b o c : Nat) : ∀ w, (Instr.arrayAt 29 (.slice (some ⟨b, o, none⟩) 32 c)).run Try.prog w = .ok (.pointer (some ⟨b, o, none⟩)) w := fun _ => by kernel_rfl

/-- a sum, by its face -/
def stHash (s : List UInt8 × Int) : List UInt8 × (List UInt8 × Int) :=
  if s.2 = 0 then (if s.1.length < 32 then (zero32, ([], 8)) else (s.1.take 32, (s.1.drop 32, 0))) else (zero32, s)

set_option maxHeartbeats 1000000 in
theorem rHash_any (p : Nat) (s : List UInt8 × Int) (w : World) (hr : Rd w p s.1 s.2) :
    Calls Try.prog 27 #[.pointer (some ⟨p, 0, none⟩)] w (RFace w p (hv (stHash s).1) (stHash s).2) := by
  obtain ⟨rest, e⟩ := s
  dsimp only at hr
  have hp := hr.lt
  have hmf : ∀ (fn : Fn) (first cap : Array Value) (w : World), (Instr.makeFunc fn first cap).run Try.prog w = .ok (.func fn first cap) w := fun _ _ _ _ => rfl
  obtain ⟨W, hW⟩ : ∃ W, W = (w.alloc (.cells #[.pointer (some ⟨p, 0, none⟩)] 33)).alloc (.cells (B8 zero32).toArray 29) := ⟨_, rfl⟩
  have hbw : Below w.heap.size w W := by
    subst hW
    exact ((Below.refl _ _).alloc (Nat.le_refl _) _).alloc (by simp) _
  have hltW : w.heap.size + 1 < W.heap.size := by subst hW; simp
  have bz : Blk W (w.heap.size + 1) 29 (B8 zero32) := by
    subst hW
    have := Blk.new (w.alloc (.cells #[.pointer (some ⟨p, 0, none⟩)] 33)) (B8 zero32).toArray 29
    simpa using this
  have bx : W.cell? ⟨w.heap.size, 0, none⟩ = some (.pointer (some ⟨p, 0, none⟩)) := by
    subst hW
    rw [World.cell?_alloc_lt _ _ _ (by simp), cell_of_row _ w.heap.size 0 _ _ _ (heap_alloc_new w _)]; rfl
  have hrW := hr.keep hbw
  have b0 : RBut (some p) w W := RBut.of_below hbw
  have HW := Lib.hid hW
  obtain ⟨A, n, c, hc0, hx0⟩ := hr
  have hA0 : e = 0 → 0 < n → ∀ b, A.map (·.block) = some b → b < w.heap.size := by
    intro he hn b hb
    obtain ⟨b', o, rfl, hlt, _⟩ := (hx0 he).2.2.1.cells hn
    simp at hb
    omega
  have hc := hc0.keep (hbw.block p hp)
  have hx : e = 0 → n ≤ c ∧ c ≤ 9223372036854775807 ∧ Sl W 1 A n (B8 rest) ∧ Away A p := fun he => ⟨(hx0 he).1, (hx0 he).2.1, (hx0 he).2.2.1.to hbw, (hx0 he).2.2.2⟩
  clear hW hbw hc0 hx0 hrW
  have c1 := hc.c1
  by_cases h0 : e = 0
  · subst h0
    have C1 := c1
    obtain ⟨hnc, hc63, hs, hA⟩ := hx rfl
    have hn8 := hs.len8
    by_cases hl : rest.length < 32
    · rw [show stHash (rest, 0) = (zero32, ([], 8)) by simp [stHash, hl]]
      have TC := Lib.hid (take_cut p A n c 32 W hc (by omega))
      clear hn8 hs hA hx hnc hl
      go_enter_defers Try.func27, Try.ntmps27
      go_upto_region 1 with fail
      refine wp_at HW.out ?_
      go_wp2_with fail
      refine TC.out.mono ?_
      rintro en w3 ⟨rfl, rfl⟩
      dsimp only
      refine leaves_cons (f := 40) (args := #[.pointer (some ⟨w.heap.size, 0, none⟩)]) (by simp) (by simp [go_sem]) ?_
      refine (hash1_catch p w.heap.size A n c 0 8 _ bx hc).mono ?_
      rintro en u' w'' ⟨rfl, rfl, hc3, hb3⟩
      simp only [firstErr, if_true] at hc3
      have fin := RBut.trans_ _ _ _ _ b0 hb3
      have fin2 := hc3.err (rest := []) (by decide)
      have bz3 := bz.but hb3 (by intro h; injection h; omega)
      exact ⟨_, results_blk Try.results27 rfl bz3 Try.underlying29 rfl (info_hash rfl), rfl, fin2, fin⟩
    · rw [show stHash (rest, 0) = (rest.take 32, (rest.drop 32, 0)) by simp [stHash, hl]]
      have TK := Lib.hid (take_ok p A n c 32 rest W hc hnc hs hA (by omega) hc63)
      have hl32 : (rest.take 32).length = 32 := by rw [List.length_take]; omega
      have one32 : ∀ u ∈ B8 (rest.take 32), u.oneCell' = true := B8_one _
      have i32 := info_hash hl32
      have l32 : (B8 zero32).length = (B8 (rest.take 32)).length := by rw [B8_len, B8_len, hl32]; rfl
      have HA0 := Lib.hid (hA0 rfl (by omega))
      have I32 := Lib.hid i32
      have L32 := Lib.hid l32
      have ONE := Lib.hid one32
      clear hA0 hn8 hs hA hx hnc hl hl32 i32 l32 one32 hc c1 hc63
      have c1 : W.cell? ⟨p, 1, none⟩ = some (.int .i64 0) := C1
      go_enter_defers Try.func27, Try.ntmps27
      go_upto_region 1 with fail
      refine wp_at HW.out ?_
      go_wp2_with fail
      refine TK.out.mono ?_
      rintro en w3 ⟨rfl, hs3, hr3, hb3, hrA⟩
      clear TK
      obtain ⟨b, o, rfl, _, _⟩ := hs3.at8 (by decide)
      have rg := hs3.range
      have hap := array_at b o c
      have bz3 := bz.but hb3 (by intro h; injection h; omega)
      have q3 := (World.cell?_of_block (w' := w3) (a := ⟨w.heap.size, 0, none⟩) (hb3.block w.heap.size (by omega) (fun h => by injection h; omega))).trans bx
      have fin3 := RBut.trans_ _ _ _ _ b0 hb3
      clear hs3 hb3 b0 bx bz
      dsimp only
      go_wp2_with (first
        | (refine wpl_load_blk rfl _ _ rfl _ rfl _ _ _ bz4 Try.underlying29 rfl I32.out ?_)
        | (refine wpList_load_mid rfl _ _ rfl b o rfl (B8 (rest.take 32)) _ rg Try.underlying29 rfl I32.out ?_)
        | (refine wpl_store_blk rfl _ _ _ rfl _ _ _ _ rfl rfl bz4 rfl I32.out ONE.out ?_; intro W5 bz5 hb5)
        | (refine wpl_store_blk rfl _ _ _ rfl _ _ _ _ rfl rfl bz3 L32.out I32.out ONE.out ?_; intro W4 bz4 hb4; clear rg))
      have fin4 := grown_trans' (grown_trans' fin3 hb4 (fun j h => .inr (by injection h; omega))) hb5 (fun j h => .inr (by injection h; omega))
      have e4 := fun k (hk : k < w3.heap.size) (h1 : k ≠ w.heap.size + 1) => (hb5.block k (Nat.lt_of_lt_of_le hk hb4.size) (fun h => by injection h; omega)).trans (hb4.block k hk (fun h => by injection h; omega))
      have hlt3 : w.heap.size < w3.heap.size := World.block_lt_of_cell? _ _ q3
      have q5 := (World.cell?_of_block (w' := W5) (a := ⟨w.heap.size, 0, none⟩) (e4 w.heap.size hlt3 (by omega))).trans q3
      have hr5 : Rd W5 p (rest.drop 32) 0 := hrA.move e4 (Nat.le_trans hb4.size hb5.size) (by omega) (fun b' h => by have := HA0.out b' h; omega)
      refine leaves_cons (f := 40) (args := #[.pointer (some ⟨w.heap.size, 0, none⟩)]) (by simp) (by simp [go_sem]) ?_
      refine (hash1_idle p w.heap.size _ q5).mono ?_
      rintro e u' w'' ⟨rfl, rfl, rfl⟩
      have bz6 : Blk W5.drew (w.heap.size + 1) 29 (B8 (rest.take 32)) := bz5
      exact ⟨_, results_blk Try.results27 rfl bz6 Try.underlying29 rfl I32.out, rfl, hr5.keep (Below.refl _ _).drew, RBut.trans_ _ _ _ _ fin4 (RBut.of_below (Below.refl _ _).drew)⟩
  · have t1 : (e == 0) = false := by simpa using h0
    rw [show stHash (rest, e) = (zero32, (rest, e)) by simp [stHash, h0]]
    have hrW : Rd W p rest e := ⟨A, n, c, hc, hx⟩
    clear hx h0
    go_enter_defers Try.func27, Try.ntmps27
    go_upto_region 1 with fail
    refine wp_at HW.out ?_
    go_wp2_with (first
      | (refine wpl_load_blk rfl _ _ rfl _ rfl _ _ _ bz Try.underlying29 rfl (info_hash rfl) ?_)
      | (refine wpl_store_blk rfl _ _ _ rfl _ _ _ _ rfl rfl bz rfl (info_hash rfl) zero32_one ?_; intro W2 bz2 hb2))
    have q2 := (World.cell?_of_block (w' := W2) (a := ⟨w.heap.size, 0, none⟩) (hb2.block w.heap.size (by omega) (fun h => by injection h; omega))).trans bx
    have hr2 : Rd W2 p rest e := by
      have hc2 := hc.keep (hb2.block p hc.lt (fun h => by injection h; omega))
      exact hc2.err (by simpa using t1)
    refine leaves_cons (f := 40) (args := #[.pointer (some ⟨w.heap.size, 0, none⟩)]) (by simp) (by simp [go_sem]) ?_
    refine (hash1_idle p w.heap.size _ q2).mono ?_
    rintro e u' w'' ⟨rfl, rfl, rfl⟩
    have bz3 : Blk W2.drew (w.heap.size + 1) 29 (B8 zero32) := bz2
    have hbb := grown_trans' b0 hb2 (fun j h => .inr (by injection h; omega))
    exact ⟨_, results_blk Try.results27 rfl bz3 Try.underlying29 rfl (info_hash rfl), rfl, hr2.keep (Below.refl _ _).drew, RBut.trans_ _ _ _ _ hbb (RBut.of_below (Below.refl _ _).drew)⟩
end Go.Proofs.Ytoecbgdkbncfbaa
