/- How a law's arguments read, and what its row asks; of whatever program. -/
import Derived.Test.YtakebmpnbdlcoaaLib
import Derived.ProofKit
import Derived.OpenShut
import Derived.ShutString
import Derived.Deep.Slices
import Derived.SizedLaws
set_option linter.unusedSimpArgs false
set_option linter.unusedVariables false
namespace Go.Proofs.Ytakebmpnbdlcoaa
open Go.ChangeShapes Go.WideShapes Go.ChangeAt Go.RowKit
open Go.ChangeMaps (open_string shut_string)

section
variable {H : Type} {enc : TypeId × Value → H} {P : Program} {W W' : World}

theorem trodAll_stays (hl : laidOutB P = true) : ∀ (ts : List TypeId) (vs : List Value) (ds : List (DataW H)) (p : List MemPlace), ts.all (fun t => P.readableRec t && decide (t < P.types.size)) = true →
    DataW.TrodAll enc P W 0 (fun _ => true) true ts vs ds p → Below W.heap.size W W' → DataW.TrodAll enc P W' 0 (fun b => decide (b < W.heap.size)) true ts vs ds p
  | [], [], [], _, _, h, _ => h
  | t :: ts, v :: vs, d :: ds, _, ht, ⟨p, q, h1, h2, e⟩, hb => by
    simp only [List.all_cons, Bool.and_eq_true, decide_eq_true_eq] at ht
    have lt0 : ∀ x ∈ p, x.block < W.heap.size := by obtain ⟨m, hm⟩ := h1; exact DataW.trod_lt m _ _ _ hm
    exact ⟨p, q, Below.trod hl ht.1.1 ht.1.2 h1 hb lt0, trodAll_stays hl ts vs ds q (by simpa using ht.2) h2 hb, e⟩
  | [], [], _ :: _, _, _, h, _ => by cases h
  | [], _ :: _, _, _, _, h, _ => by cases h
  | _ :: _, [], _, _, _, h, _ => by cases h
  | _ :: _, _ :: _, [], _, _, h, _ => by cases h

theorem trodAll_length : ∀ (ts : List TypeId) (vs : List Value) (ds : List (DataW H)) (p : List MemPlace), DataW.TrodAll enc P W 0 (fun _ => true) true ts vs ds p → ds.length = ts.length
  | [], [], [], _, _ => rfl
  | t :: ts, v :: vs, d :: ds, _, ⟨p, q, h1, h2, e⟩ => by simp [trodAll_length ts vs ds q h2]
  | [], [], _ :: _, _, h => by cases h
  | [], _ :: _, _, _, h => by cases h
  | _ :: _, [], _, _, h => by cases h
  | _ :: _, _ :: _, [], _, h => by cases h

/-- The specification of a law: true; each argument reads as it did. -/
def LawSpec (s : ChangeSpec) (n : Nat) : Prop := s.vars = [] ∧ ∀ (H : Type) (ds : List (DataW H)), ds.length = n → (s.fn H (ds ++ [])) = { results := [.lit (.bool true)], args := ds, vars := [] }

theorem law_lift {C : Checked} {os : Os} {f : FuncId} {fn : Func} {s : ChangeSpec} {n : Nat} (hs : LawSpec s n) (hn : fn.params.size = n) (tb : TypeId) (hres : fn.resultTypes = #[tb]) (htb : C.prog.underlying tb = some .bool)
    (hl : laidOutB C.prog = true) (hr : fn.params.toList.all (fun t => C.prog.readableRec t && decide (t < C.prog.types.size)) = true)
    (own : ownKnob C.prog.godebug = none) (started : os.Started) (noInit : C.prog.inits.idxOf? f = none) (hfn : C.prog.funcs[f]? = some fn)
    (witness : ∃ (w : World) (tape : Tape) (i : Input), w.os = os ∧ (w.forCall tape i).Shaped C.prog ∧ i.vars = [] ∧ Input.okWide C.prog (w.forCall tape i) .any w.heap.size f i ∧
      s.pre6 enc C.prog fn [] false (w.forCall tape i).memory i.args ∧ ({} : Assume).holds C.prog (lone (Frame.enter C.prog f i.args .normal) [] (w.forCall tape i)))
    (walk : ∀ (W : World) (base : Nat) (vs : List Value) (ds : List (DataW H)) (p : List MemPlace), (∀ (j : Nat) t v, fn.params.toList[j]? = some t → vs[j]? = some v → Value.okWide C.prog W .any base t v) →
      DataW.TrodAll enc C.prog W 0 (fun _ => true) true fn.params.toList vs ds p → Calls C.prog f vs.toArray W (RB true W)) :
    ReturnsInHanded {} C os f .any (s.pre6 enc C.prog fn [] false) (s.post enc C.prog fn false true false false) := by
  refine returnsInHanded_of_change (C := C) own started noInit hfn witness ?_
  intro W base args ds gs before hval hW _ _
  have hW' := hW
  obtain ⟨p, q, hA, hV, rfl, hfz, hnd⟩ := hW
  rw [hs.1] at hV
  obtain ⟨rfl, rfl⟩ := trodVars_none hV
  have hlen : ds.length = n := by rw [trodAll_length _ _ _ _ hA, ← hn]; simp
  obtain ⟨args⟩ := args
  refine (walk W base args ds p (fun j t v h1 h2 => hval j t v (by simpa using h1) (by simpa using h2)) hA).mono fun e W' ⟨he, bel⟩ => ?_
  subst he
  refine ⟨_, rfl, ds, [], _, [], p, [], hW', ?_, ?_, ?_, bel.frame _, fun h => by cases h⟩
  · rw [hs.2 H ds hlen, hres]
    exact trodAll_cons_mk (shut_bool htb _) trodAll_mk0
  · rw [hs.2 H ds hlen]
    exact trodAll_stays hl _ _ _ _ hr hA bel
  · rw [hs.2 H ds hlen, hs.1]
    rfl

theorem trodAll_one' {t : TypeId} {vs : List Value} {ds : List (DataW H)} {p : List MemPlace} {ts : List TypeId} (h : DataW.TrodAll enc P W 0 (fun _ => true) true (t :: ts) vs ds p) :
    ∃ v vs' d ds' p' q, vs = v :: vs' ∧ DataW.Trod enc P W 0 (fun _ => true) true t v d p' ∧ DataW.TrodAll enc P W 0 (fun _ => true) true ts vs' ds' q := by
  match vs, ds, h with
  | v :: vs', d :: ds', ⟨p', q, h1, h2, _⟩ => exact ⟨v, vs', d, ds', p', q, rfl, h1, h2⟩
theorem trodAll_nil' {vs : List Value} {ds : List (DataW H)} {p : List MemPlace} (h : DataW.TrodAll enc P W 0 (fun _ => true) true [] vs ds p) : vs = [] := by
  match vs, ds, h with
  | [], [], _ => rfl

/-! ### arguments, by type -/
theorem arg_int {t : TypeId} {v : Value} {d : DataW H} {p : List MemPlace} {r : Reach} {base : Nat} (ht : P.underlying t = some (.int .i64)) (hv : Value.okWide P W r base t v)
    (h : DataW.Trod enc P W 0 (fun _ => true) true t v d p) : ∃ a : Int, v = .int .i64 a ∧ -9223372036854775808 ≤ a ∧ a < 9223372036854775808 := by
  obtain ⟨a, rfl, rfl, rfl, w⟩ := open_int ht hv h
  refine ⟨a, rfl, ?_⟩
  simp [Lit.wf, IntKind.min, IntKind.max, IntKind.signed, IntKind.bits] at w
  omega

theorem of_u8 (zs : List Int) (h : ∀ n ∈ zs, (Lit.int .u8 n).wf = true) : ∃ bs : List UInt8, zs = bs.map (fun c => (c.toNat : Int)) := by
  refine ⟨zs.map (fun z => UInt8.ofNat z.toNat), ?_⟩
  rw [List.map_map]
  conv => lhs; rw [← List.map_id zs]
  refine List.map_congr_left fun z hz => ?_
  have := h z hz
  simp [Lit.wf, IntKind.min, IntKind.max, IntKind.signed, IntKind.bits] at this
  simp only [id, Function.comp, UInt8.toNat_ofNat']
  omega

theorem arg_bytes {t e : TypeId} {v : Value} {d : DataW H} {p : List MemPlace} {r : Reach} {base : Nat} (ht : P.underlying t = some (.slice e)) (he : P.underlying e = some (.int .u8)) (hc : P.cellsOf e = 1)
    (hv : Value.okWide P W r base t v) (h : DataW.Trod enc P W 0 (fun _ => true) true t v d p) :
    ∃ (A : Option Addr) (n c : Nat) (bs : List UInt8), v = .slice A n c ∧ n ≤ c ∧ c ≤ maxLen ∧ Sl W 1 A n (B8 bs) := by
  obtain ⟨A, n, c, rfl⟩ := okWide_slice ht hv
  obtain ⟨fuel, hf⟩ := h
  rcases open_ints ht he hc hf with ⟨hcs, _⟩ | ⟨x, l, c', zs, hcs, _, hl, hm, hz, _, hcell, hwz⟩
  · simp [Value.cells] at hcs
    obtain ⟨rfl, rfl, rfl⟩ := hcs
    exact ⟨none, 0, 0, [], rfl, Nat.le_refl _, Nat.zero_le _, Sl.nil_⟩
  · simp [Value.cells] at hcs
    obtain ⟨rfl, rfl, rfl⟩ := hcs
    simp only [if_true] at hz
    obtain ⟨bs, rfl⟩ := of_u8 zs hwz
    refine ⟨some x, n, c, bs.take n, rfl, hl, hm, ⟨by simp [B8] at hz ⊢; omega, fun hn => ?_⟩⟩
    have h0 := hcell 0 (by omega)
    have hsp : x.spot = none := by
      have hz0 : x.add 0 = x := by simp [Addr.add]
      rw [hz0] at h0
      unfold World.cell? at h0
      split at h0
      · split at h0
        · cases h0
        · rename_i hns; cases hx : x.spot with | none => rfl | some _ => rw [hx] at hns; exact absurd rfl hns
      · cases h0
    obtain ⟨b, o, sp⟩ := x
    simp only at hsp
    subst hsp
    refine ⟨b, o, rfl, World.block_lt_of_cell? W _ h0, fun j u hu => ?_⟩
    have hlen : bs.length = c := by simpa using hz
    rw [B8, List.map_take, List.getElem?_take] at hu
    split at hu
    · have hj := hcell j (by simp; omega)
      rw [add_off] at hj
      rw [hj]
      rw [← hu]
      simp only [List.getD_eq_getElem?_getD, List.getElem?_map]
      rw [List.getElem?_eq_getElem (by omega : j < bs.length)]
      simp [b8]
    · cases hu

theorem arg_u8 {t : TypeId} {v : Value} {d : DataW H} {p : List MemPlace} {r : Reach} {base : Nat} (ht : P.underlying t = some (.int .u8)) (hv : Value.okWide P W r base t v)
    (h : DataW.Trod enc P W 0 (fun _ => true) true t v d p) : ∃ y : UInt8, v = .int .u8 (y.toNat : Int) := by
  obtain ⟨a, rfl, rfl, rfl, w⟩ := open_int ht hv h
  simp [Lit.wf, IntKind.min, IntKind.max, IntKind.signed, IntKind.bits] at w
  exact ⟨UInt8.ofNat a.toNat, by rw [UInt8.toNat_ofNat']; congr 1; omega⟩
theorem arg_bool {t : TypeId} {v : Value} {d : DataW H} {p : List MemPlace} {r : Reach} {base : Nat} (ht : P.underlying t = some .bool) (hv : Value.okWide P W r base t v)
    (h : DataW.Trod enc P W 0 (fun _ => true) true t v d p) : ∃ b : Bool, v = .bool b := by
  obtain ⟨b, rfl, _⟩ := open_bool ht hv h
  exact ⟨b, rfl⟩

theorem spot_of {w : World} {x : Addr} {v : Value} (h : w.cell? x = some v) : ∃ b o, x = ⟨b, o, none⟩ ∧ b < w.heap.size := by
  have hsp : x.spot = none := by
    unfold World.cell? at h
    split at h
    · split at h
      · cases h
      · rename_i hns; cases hx : x.spot with | none => rfl | some _ => rw [hx] at hns; exact absurd rfl hns
    · cases h
  obtain ⟨b, o, sp⟩ := x
  simp only at hsp
  subst hsp
  exact ⟨b, o, rfl, World.block_lt_of_cell? w _ h⟩
/-- a slice whose elements take one cell each -/
theorem arg_slice1 {t e : TypeId} {v : Value} {d : DataW H} {p : List MemPlace} {r : Reach} {base : Nat} (ht : P.underlying t = some (.slice e)) (hc : P.cellsOf e = 1)
    (hv : Value.okWide P W r base t v) (h : DataW.Trod enc P W 0 (fun _ => true) true t v d p) :
    ∃ (A : Option Addr) (n c : Nat) (vs : List Value), v = .slice A n c ∧ n ≤ c ∧ c ≤ maxLen ∧ (A = none → c = 0) ∧ Sl W 1 A n vs ∧ ∀ u ∈ vs, ∃ (m : Nat) (dd : DataW H) (pp : List MemPlace), DataW.trod enc P W 0 (fun _ => true) true m e [u] = some (dd, pp) := by
  obtain ⟨A, n, c, rfl⟩ := okWide_slice ht hv
  obtain ⟨fuel, hf⟩ := h
  rcases Go.Deep.open_slice1 ht hc hf with ⟨hcs, _⟩ | ⟨x, l, c', m, fu, V, D, Pl, hcs, _, hl, hm, hmm, _, hx⟩
  · simp [Value.cells] at hcs
    obtain ⟨rfl, rfl, rfl⟩ := hcs
    exact ⟨none, 0, 0, [], rfl, Nat.le_refl _, Nat.zero_le _, fun _ => rfl, Sl.nil_, fun u hu => by cases hu⟩
  · simp [Value.cells] at hcs
    obtain ⟨rfl, rfl, rfl⟩ := hcs
    simp only [if_true] at hmm
    refine ⟨some x, n, c, (List.range n).map V, rfl, hl, hm, (fun h => by cases h), ⟨by simp, fun hn => ?_⟩, fun u hu => ?_⟩
    · have h0 := (hx 0 (by omega)).1
      have hz0 : x.add 0 = x := by simp [Addr.add]
      rw [hz0] at h0
      obtain ⟨b, o, rfl, hb⟩ := spot_of h0
      refine ⟨b, o, rfl, hb, fun j u hu => ?_⟩
      rw [List.getElem?_map] at hu
      obtain ⟨i, hi, rfl⟩ := Option.map_eq_some_iff.1 hu
      obtain ⟨hjn, hj⟩ := List.getElem?_eq_some_iff.1 hi
      simp at hjn hj
      subst hj
      have := (hx j (by omega)).1
      rwa [add_off] at this
    · obtain ⟨i, hi, rfl⟩ := List.mem_map.1 hu
      exact ⟨fu, D i, Pl i, (hx i (by have := List.mem_range.1 hi; omega)).2⟩
theorem list_map_of {α β : Type} (f : α → β) : ∀ (l : List β), (∀ u ∈ l, ∃ x, u = f x) → ∃ xs : List α, l = xs.map f
  | [], _ => ⟨[], rfl⟩
  | a :: l, h => by
    obtain ⟨x, rfl⟩ := h a (by simp)
    obtain ⟨xs, rfl⟩ := list_map_of f l (fun u hu => h u (by simp [hu]))
    exact ⟨x :: xs, rfl⟩
theorem arg_ints {t e : TypeId} {v : Value} {d : DataW H} {p : List MemPlace} {r : Reach} {base : Nat} (ht : P.underlying t = some (.slice e)) (he : P.underlying e = some (.int .i64)) (hc : P.cellsOf e = 1)
    (hv : Value.okWide P W r base t v) (h : DataW.Trod enc P W 0 (fun _ => true) true t v d p) :
    ∃ (A : Option Addr) (n c : Nat) (zs : List Int), v = .slice A n c ∧ n ≤ c ∧ c ≤ maxLen ∧ (∀ z ∈ zs, -9223372036854775808 ≤ z ∧ z < 9223372036854775808) ∧ Sl W 1 A n (zs.map (Value.int .i64)) := by
  obtain ⟨A, n, c, vs, rfl, h1, h2, _, h3, h4⟩ := arg_slice1 ht hc hv h
  have h5 : ∀ u ∈ vs, ∃ z : {z : Int // -9223372036854775808 ≤ z ∧ z < 9223372036854775808}, u = .int .i64 z.1 := by
    intro u hu
    obtain ⟨m, dd, pp, hd⟩ := h4 u hu
    obtain ⟨z, h6, _, h7⟩ := DataW.trod_int he hd
    simp only [List.cons.injEq, and_true] at h6
    simp [Lit.wf, IntKind.min, IntKind.max, IntKind.signed, IntKind.bits] at h7
    exact ⟨⟨z, by omega⟩, h6⟩
  obtain ⟨xs, rfl⟩ := list_map_of _ vs h5
  refine ⟨A, n, c, xs.map (·.1), rfl, h1, h2, fun z hz => ?_, by simpa [Function.comp_def] using h3⟩
  obtain ⟨x, _, rfl⟩ := List.mem_map.1 hz
  exact x.2
/-- A slice of bytes, as it reads in a world: its value and its bytes. -/
def SB (W : World) (x : Option Addr × Nat × Nat × List UInt8) : Prop := x.2.1 ≤ x.2.2.1 ∧ x.2.2.1 ≤ maxLen ∧ (x.1 = none → x.2.2.1 = 0) ∧ Sl W 1 x.1 x.2.1 (B8 x.2.2.2)
def sbv (x : Option Addr × Nat × Nat × List UInt8) : Value := .slice x.1 x.2.1 x.2.2.1
theorem bytes_of {t e : TypeId} {u : Value} {m : Nat} {d : DataW H} {p : List MemPlace} (ht : P.underlying t = some (.slice e)) (he : P.underlying e = some (.int .u8)) (hc : P.cellsOf e = 1)
    (hf : DataW.trod enc P W 0 (fun _ => true) true m t [u] = some (d, p)) : ∃ x, u = sbv x ∧ SB W x := by
  rcases open_ints ht he hc hf with ⟨hcs, _⟩ | ⟨x, l, c', zs, hcs, _, hl, hm, hz, _, hcell, hwz⟩
  · simp only [List.cons.injEq, and_true] at hcs
    subst hcs
    exact ⟨(none, 0, 0, []), rfl, Nat.le_refl _, Nat.zero_le _, fun _ => rfl, Sl.nil_⟩
  · simp only [List.cons.injEq, and_true] at hcs
    subst hcs
    simp only [if_true] at hz
    obtain ⟨bs, rfl⟩ := of_u8 zs hwz
    refine ⟨(some x, l, c', bs.take l), rfl, hl, hm, (fun h => by cases h), ⟨by simp [B8] at hz ⊢; omega, fun hn => ?_⟩⟩
    have h0 := hcell 0 (by first | omega | (dsimp only at hn; omega))
    have hz0 : x.add 0 = x := by simp [Addr.add]
    rw [hz0] at h0
    obtain ⟨b, o, rfl, hb⟩ := spot_of h0
    refine ⟨b, o, rfl, hb, fun j u hu => ?_⟩
    have hlen : bs.length = c' := by simpa using hz
    rw [B8, List.map_take, List.getElem?_take] at hu
    split at hu
    · rename_i hjl
      have hj := hcell j (by simp; omega)
      rw [add_off] at hj
      rw [hj]
      rw [← hu]
      simp only [List.getD_eq_getElem?_getD, List.getElem?_map]
      rw [List.getElem?_eq_getElem (by omega : j < bs.length)]
      simp [b8]
    · cases hu
theorem arg_bytess {t e q : TypeId} {v : Value} {d : DataW H} {p : List MemPlace} {r : Reach} {base : Nat} (ht : P.underlying t = some (.slice e)) (he : P.underlying e = some (.slice q)) (hq : P.underlying q = some (.int .u8)) (hc : P.cellsOf e = 1) (hc2 : P.cellsOf q = 1)
    (hv : Value.okWide P W r base t v) (h : DataW.Trod enc P W 0 (fun _ => true) true t v d p) :
    ∃ (A : Option Addr) (n c : Nat) (ss : List (Option Addr × Nat × Nat × List UInt8)), v = .slice A n c ∧ n ≤ c ∧ c ≤ maxLen ∧ (∀ x ∈ ss, SB W x) ∧ Sl W 1 A n (ss.map sbv) := by
  obtain ⟨A, n, c, vs, rfl, h1, h2, _, h3, h4⟩ := arg_slice1 ht hc hv h
  have h5 : ∀ u ∈ vs, ∃ x : {x // SB W x}, u = sbv x.1 := by
    intro u hu
    obtain ⟨m, dd, pp, hd⟩ := h4 u hu
    obtain ⟨x, h6, h7⟩ := bytes_of he hq hc2 hd
    exact ⟨⟨x, h7⟩, h6⟩
  obtain ⟨xs, rfl⟩ := list_map_of _ vs h5
  refine ⟨A, n, c, xs.map (·.1), rfl, h1, h2, fun z hz => ?_, by simpa [Function.comp_def] using h3⟩
  obtain ⟨x, _, rfl⟩ := List.mem_map.1 hz
  exact x.2
theorem arg_bools {t e : TypeId} {v : Value} {d : DataW H} {p : List MemPlace} {r : Reach} {base : Nat} (ht : P.underlying t = some (.slice e)) (he : P.underlying e = some .bool) (hc : P.cellsOf e = 1)
    (hv : Value.okWide P W r base t v) (h : DataW.Trod enc P W 0 (fun _ => true) true t v d p) :
    ∃ (A : Option Addr) (n c : Nat) (bs : List Bool), v = .slice A n c ∧ n ≤ c ∧ c ≤ maxLen ∧ Sl W 1 A n (bs.map Value.bool) := by
  obtain ⟨A, n, c, vs, rfl, h1, h2, _, h3, h4⟩ := arg_slice1 ht hc hv h
  have h5 : ∀ u ∈ vs, ∃ b : Bool, u = .bool b := by
    intro u hu
    obtain ⟨m, dd, pp, hd⟩ := h4 u hu
    obtain ⟨b, h6, _⟩ := DataW.trod_bool he hd
    simp only [List.cons.injEq, and_true] at h6
    exact ⟨b, h6⟩
  obtain ⟨xs, rfl⟩ := list_map_of _ vs h5
  exact ⟨A, n, c, xs, rfl, h1, h2, h3⟩

/-- the byte of a value -/
def u8of (v : Value) : UInt8 := match v with | .int _ n => UInt8.ofNat n.toNat | _ => 0
theorem arg_hash {t e : TypeId} {v : Value} {d : DataW H} {p : List MemPlace} {r : Reach} {base k : Nat} (ht : P.underlying t = some (.array k e)) (he : P.underlying e = some (.int .u8)) (hc : P.cellsOf e = 1) (hk : P.cellsOf t = k)
    (hv : Value.okWide P W r base t v) (h : DataW.Trod enc P W 0 (fun _ => true) true t v d p) :
    ∃ g : List UInt8, v = .agg (B8 g).toArray ∧ g.length = k := by
  simp only [Value.okWide, ht] at hv
  obtain ⟨cs, rfl, hsz, _⟩ := hv
  obtain ⟨fuel, hf⟩ := h
  obtain ⟨xs, m, _, _, hl, hx, hall⟩ := DataW.trod_array ht hf
  simp only [Value.cells] at hl hall
  have hlen : cs.toList.length = k := by rw [hl, hk]
  refine ⟨cs.toList.map u8of, ?_, by simpa using hlen⟩
  congr 1
  have key : B8 (cs.toList.map u8of) = cs.toList := by
    unfold B8
    rw [List.map_map]
    conv => rhs; rw [← List.map_id cs.toList]
    refine List.map_congr_left fun c hcm => ?_
    obtain ⟨i, hi, rfl⟩ := List.mem_iff_getElem.1 hcm
    have hi2 : i < k := by omega
    have h1 := hall i hi2
    rw [hc, Nat.mul_one] at h1
    rw [List.getElem?_eq_getElem (by omega)] at h1
    have e1 : (cs.toList.drop i).take 1 = [cs.toList[i]] := by
      rw [List.drop_eq_getElem_cons hi]
      rfl
    rw [e1] at h1
    obtain ⟨n, h2, _, h3⟩ := DataW.trod_int he h1
    simp only [List.cons.injEq, and_true] at h2
    rw [h2]
    simp [Lit.wf, IntKind.min, IntKind.max, IntKind.signed, IntKind.bits] at h3
    simp only [Function.comp, u8of, b8, id, UInt8.toNat_ofNat']
    congr 1
    omega
  rw [key]
end
end Go.Proofs.Ytakebmpnbdlcoaa
