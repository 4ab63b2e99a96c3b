/- A round of an inner loop of capstanref2.Sum. -/
import Derived.Test.YtakebmpnbdlcoaaRefSum
set_option linter.unusedSimpArgs false
set_option linter.unusedVariables false
namespace Go.Proofs.Ytakebmpnbdlcoaa
open Go.RowKit
set_option maxRecDepth 100000
/-- the bodies of a code's loops -/
def loopsOf : Code → List Code
  | .loop c => c :: loopsOf c
  | .seq a b => loopsOf a ++ loopsOf b
  | .block _ c => loopsOf c
  | .scope c => loopsOf c
  | .cond _ a b => loopsOf a ++ loopsOf b
  | _ => []
noncomputable def refBody (k : Nat) : Code := (loopsOf (Try.f43.body.getD .skip)).getD k .skip
set_option maxRecDepth 1000000 in
set_option maxHeartbeats 8000000 in
theorem refS4 (s0 s1 s2 s3 s4 s6 s7 s11 s12 s13 s14 s15 s16 s17 s18 s19 s20 s21 s22 s23 s24 s25 s26 s27 s28 s29 s30 s31 s32 s33 s34 s35 s36 s37 s38 s39 s40 s41 s42 s43 s44 s45 s46 s47 s48 s49 s50 s51 s52 s53 s54 s55 s56 s57 s58 s59 s60 s61 s62 s63 s64 s65 s66 s67 s68 s69 s70 s71 s72 s73 s74 s75 s76 s77 s78 s79 s80 s81 s82 s83 s84 s85 s86 s87 s88 s89 s90 s91 s92 s93 s94 s95 s96 s97 s98 s99 s100 s101 s102 s103 s104 s105 s106 s107 s108 s109 s110 s111 s112 s113 s114 s115 s116 s117 s118 s119 s120 s121 s122 s123 s124 s125 s126 s127 s128 s129 s130 s131 s132 s133 s134 s135 s136 s137 s138 s139 s140 s141 s142 s143 s144 s145 s146 s147 s148 s149 s150 s151 s152 s153 s154 s155 s156 s157 s158 s159 s160 s161 s162 s163 s164 s165 s166 s167 s168 s169 s170 s171 s172 s173 s174 s175 s176 s177 s178 s179 s180 s181 s182 s183 s184 s185 s186 s187 s188 s189 s190 s191 s192 s193 s194 s195 s196 s197 s198 s199 s200 s201 s202 s203 s204 s205 s206 s207 s208 s209 s210 s211 s212 s213 s214 s215 s216 s217 s218 s219 s220 s221 s222 s223 s224 s225 s226 s227 s228 s229 s230 s231 s232 s233 s234 s235 s236 s237 s238 s239 s240 s241 s242 s243 s244 s245 s246 s247 s248 s249 s250 s251 s252 s253 s254 s255 s256 s257 s258 s259 s260 s261 s262 s263 s264 s265 s266 s267 s268 s269 s270 s271 s272 s273 s274 s275 s276 s277 : Value)
    (g m c' pW q0 i : Nat) (Pd bl : List UInt8) (old : List Nat) (wr : World) (Q : Exit → Act → World → Prop) (hP : ∀ (d : Option Tmp) (v : Value) c a w, Q (.panic c) (a.put d v) w → Q (.panic c) a w)
    (hlt : i < 16) (hm : Pd.length = m) (hmb : m ≤ 1099511627876) (hge : q0 + 64 ≤ m) (HGET : Hid (∀ j, j < 64 → bl.getD j 0 = Pd.getD (q0 + j) 0)) (hold' : Hid (old.length = 64)) (hgw : g < pW) (sR : Sl wr 1 (some ⟨g, 0, none⟩) m (B8 Pd)) (bi : Blk wr pW 93 (V32 (sched bl i ++ old.drop i)))
    (hQ : ∀ (n61 n62 n63 n64 n65 n66 n67 n68 n69 n70 n71 n72 n73 n74 n75 n76 n77 n78 n79 n80 n81 n82 n83 n84 n85 n86 n87 n88 n89 n90 n91 n92 n93 n94 n95 n96 n97 n98 n99 n11 : Value) (w' : World), Blk w' pW 93 (V32 (sched bl (i + 1) ++ old.drop (i + 1))) → RBut (some pW) wr w' → Q .normal ⟨#[s0, s1, s2, s3, s4, (.slice (some ⟨g, 0, none⟩) m c'), s6, s7, (.pointer (some ⟨pW, 0, none⟩)), (.int .i64 (q0 : Int)), (.int .i64 ((i : Int) + 1)), n11, s12, s13, s14, s15, s16, s17, s18, s19, s20, s21, s22, s23, s24, s25, s26, s27, s28, s29, s30, s31, s32, s33, s34, s35, s36, s37, s38, s39, s40, s41, s42, s43, s44, s45, s46, s47, s48, s49, s50, s51, s52, s53, s54, s55, s56, s57, s58, s59, s60, n61, n62, n63, n64, n65, n66, n67, n68, n69, n70, n71, n72, n73, n74, n75, n76, n77, n78, n79, n80, n81, n82, n83, n84, n85, n86, n87, n88, n89, n90, n91, n92, n93, n94, n95, n96, n97, n98, n99, s100, s101, s102, s103, s104, s105, s106, s107, s108, s109, s110, s111, s112, s113, s114, s115, s116, s117, s118, s119, s120, s121, s122, s123, s124, s125, s126, s127, s128, s129, s130, s131, s132, s133, s134, s135, s136, s137, s138, s139, s140, s141, s142, s143, s144, s145, s146, s147, s148, s149, s150, s151, s152, s153, s154, s155, s156, s157, s158, s159, s160, s161, s162, s163, s164, s165, s166, s167, s168, s169, s170, s171, s172, s173, s174, s175, s176, s177, s178, s179, s180, s181, s182, s183, s184, s185, s186, s187, s188, s189, s190, s191, s192, s193, s194, s195, s196, s197, s198, s199, s200, s201, s202, s203, s204, s205, s206, s207, s208, s209, s210, s211, s212, s213, s214, s215, s216, s217, s218, s219, s220, s221, s222, s223, s224, s225, s226, s227, s228, s229, s230, s231, s232, s233, s234, s235, s236, s237, s238, s239, s240, s241, s242, s243, s244, s245, s246, s247, s248, s249, s250, s251, s252, s253, s254, s255, s256, s257, s258, s259, s260, s261, s262, s263, s264, s265, s266, s267, s268, s269, s270, s271, s272, s273, s274, s275, s276, s277], []⟩ w') :
    Code.wp Try.prog (refBody 3) Q ⟨#[s0, s1, s2, s3, s4, (.slice (some ⟨g, 0, none⟩) m c'), s6, s7, (.pointer (some ⟨pW, 0, none⟩)), (.int .i64 (q0 : Int)), (.int .i64 (i : Int)), s11, s12, s13, s14, s15, s16, s17, s18, s19, s20, s21, s22, s23, s24, s25, s26, s27, s28, s29, s30, s31, s32, s33, s34, s35, s36, s37, s38, s39, s40, s41, s42, s43, s44, s45, s46, s47, s48, s49, s50, s51, s52, s53, s54, s55, s56, s57, s58, s59, s60, s61, s62, s63, s64, s65, s66, s67, s68, s69, s70, s71, s72, s73, s74, s75, s76, s77, s78, s79, s80, s81, s82, s83, s84, s85, s86, s87, s88, s89, s90, s91, s92, s93, s94, s95, s96, s97, s98, s99, s100, s101, s102, s103, s104, s105, s106, s107, s108, s109, s110, s111, s112, s113, s114, s115, s116, s117, s118, s119, s120, s121, s122, s123, s124, s125, s126, s127, s128, s129, s130, s131, s132, s133, s134, s135, s136, s137, s138, s139, s140, s141, s142, s143, s144, s145, s146, s147, s148, s149, s150, s151, s152, s153, s154, s155, s156, s157, s158, s159, s160, s161, s162, s163, s164, s165, s166, s167, s168, s169, s170, s171, s172, s173, s174, s175, s176, s177, s178, s179, s180, s181, s182, s183, s184, s185, s186, s187, s188, s189, s190, s191, s192, s193, s194, s195, s196, s197, s198, s199, s200, s201, s202, s203, s204, s205, s206, s207, s208, s209, s210, s211, s212, s213, s214, s215, s216, s217, s218, s219, s220, s221, s222, s223, s224, s225, s226, s227, s228, s229, s230, s231, s232, s233, s234, s235, s236, s237, s238, s239, s240, s241, s242, s243, s244, s245, s246, s247, s248, s249, s250, s251, s252, s253, s254, s255, s256, s257, s258, s259, s260, s261, s262, s263, s264, s265, s266, s267, s268, s269, s270, s271, s272, s273, s274, s275, s276, s277], []⟩ wr := by
  conv => arg 2; whnf
  have hbi : RBut (some pW) wr wr := RBut.refl_ _ _
  have HM := Lib.hid hm
  clear hm
  have t1 : (i : Int) < 16 := by omega
  obtain ⟨p0, hp0⟩ : ∃ p0 : Nat, p0 = q0 + 4 * i := ⟨_, rfl⟩
  obtain ⟨p1, hp1⟩ : ∃ p1 : Nat, p1 = q0 + (4 * i + 1) := ⟨_, rfl⟩
  obtain ⟨p2, hp2⟩ : ∃ p2 : Nat, p2 = q0 + (4 * i + 2) := ⟨_, rfl⟩
  obtain ⟨p3, hp3⟩ : ∃ p3 : Nat, p3 = q0 + (4 * i + 3) := ⟨_, rfl⟩
  have hml : m = Pd.length := HM.out.symm
  have cel : ∀ p, p < m → ∃ y : UInt8, Pd.getD p 0 = y ∧ ∀ w', RBut (some pW) wr.drew w' → w'.cell? ⟨g, p, none⟩ = some (.int .u8 (y.toNat : Int)) := by
    intro p hp
    refine ⟨Pd.getD p 0, rfl, fun w' hw' => ?_⟩
    have h1 := (sR.but hbi (fun h => by injection h; omega)).drew.but hw' (fun h => by injection h; omega)
    have h2 := h1.cell (k := p) (u := .int .u8 ((Pd.getD p 0).toNat : Int)) (by simp [B8, b8, List.getElem?_eq_getElem (show p < Pd.length by omega), List.getD])
    rwa [Nat.zero_add] at h2
  obtain ⟨y0, g0, c0⟩ := cel p0 (by omega)
  obtain ⟨y1, g1, c1⟩ := cel p1 (by omega)
  obtain ⟨y2, g2, c2⟩ := cel p2 (by omega)
  obtain ⟨y3, g3, c3⟩ := cel p3 (by omega)
  have hx : w4 bl i = y0.toNat * 16777216 + y1.toNat * 65536 + y2.toNat * 256 + y3.toNat := by
    unfold w4
    rw [HGET.out _ (by omega), HGET.out _ (by omega), HGET.out _ (by omega), HGET.out _ (by omega), ← hp3, ← hp2, ← hp1, ← hp0, g0, g1, g2, g3]
  have HX := Lib.hid hx
  have l0 : (p0 : Int) < m := by omega
  have t64 : (i : Int) < 64 := by omega
  have l1 : (p1 : Int) < m := by omega
  have l2 : (p2 : Int) < m := by omega
  have l3 : (p3 : Int) < m := by omega
  have v0 : (q0 : Int) + 4 * (i : Int) = (p0 : Int) := by omega
  have v1 : IntKind.i64.wrap ((p0 : Int) + 1) = (p1 : Int) := by rw [IntWalk.i64_in _ (by omega)]; omega
  have v2 : IntKind.i64.wrap ((p0 : Int) + 2) = (p2 : Int) := by rw [IntWalk.i64_in _ (by omega)]; omega
  have v3 : IntKind.i64.wrap ((p0 : Int) + 3) = (p3 : Int) := by rw [IntWalk.i64_in _ (by omega)]; omega
  have bi' : Blk wr.drew pW 93 (V32 (sched bl i ++ old.drop i)) := bi
  have hbi' := RBut.trans_ _ _ _ _ hbi (RBut.of_below (Below.refl _ _).drew)
  have hol : i < old.length := by rw [hold'.out]; omega
  clear cel g0 g1 g2 g3 hx hp0 hp1 hp2 hp3 bi hbi hml
  go_wp2_with fail
  refine wp_region_C [(0, true), (1, true), (2, true), (3, true), (4, true), (5, true), (6, true), (7, true), (8, true), (9, true), (10, true), (11, true), (12, true), (13, true), (14, true), (15, true), (16, true), (17, true), (18, true), (19, true), (20, true), (21, true), (22, true), (23, true), (24, false), (25, false), (26, false), (27, false), (28, false), (29, false), (30, false), (31, false)] (RBut (some pW)) (by kernel_rfl) (by kernel_rfl) (by kernel_rfl) (by decide) (RBut.refl_ _) (RBut.trans_ _) (by intro d v c a w h; exact hP d v c a w h) ?_
  generalize wr.drew = wd at *
  have d3 := c3 wd (RBut.refl_ _ _)
  have BW := be_word y0 y1 y2 y3
  rw [← HX.out] at BW
  have ce : wd.cell? ⟨pW, i, none⟩ = (V32 (sched bl i ++ old.drop i))[i]? := bi'.cell i
  rw [List.getElem?_eq_getElem (by rw [V32_len]; simp [sched_len]; omega)] at ce
  have fe := bi'.fz i
  have bj := bi'.set_ i (.int .u32 ((w4 bl i : Nat) : Int))
  rw [old_set _ old i _ (sched_len bl i) hol] at bj
  have hbj := RBut.trans_ _ _ _ _ hbi' (RBut.setC wd pW i (.int .u32 ((w4 bl i : Nat) : Int)))
  have BJ := Lib.hid bj
  have HBJ := Lib.hid hbj
  clear bj hbj
  generalize (V32 (sched bl i ++ old.drop i))[i]'_ = zz at ce
  repeat (first | (refine wpC_quiet (v := ?_) rfl (by rfl) ?_ ?_; rotate_left; (· (intro w' hw'; go_simp; try with_reducible rfl)); simp only [Act.put, List.setIfInBounds_toArray, List.set_cons_zero, List.set_cons_succ]) | (refine wpC_val (v := ?_) (RBut.refl_ _) rfl (by rfl) ?_ ?_; rotate_left; (· (go_simp; try with_reducible rfl)); simp only [Act.put, List.setIfInBounds_toArray, List.set_cons_zero, List.set_cons_succ]) | (refine wpC_skip rfl (by rfl) ?_; simp only [Act.put, List.setIfInBounds_toArray, List.set_cons_zero, List.set_cons_succ]) | (refine wpC_skip' (RBut.refl_ _) rfl (by rfl) ?_; simp only [Act.put, List.setIfInBounds_toArray, List.set_cons_zero, List.set_cons_succ]))
  (refine wpC_loud rfl (by rfl) ?_; intro K hK; go_simp)
  (refine hK.out _ _ (RBut.setC _ _ _ _) ?_; clear hK K; try simp only [Act.put, List.setIfInBounds_toArray, List.set_cons_zero, List.set_cons_succ])
  refine wpC_nil ?_
  clear ce fe BW
  go_wp2_with fail
  exact hQ _ _ _ _ _ _ _ _ _ _ _ _ _ _ _ _ _ _ _ _ _ _ _ _ _ _ _ _ _ _ _ _ _ _ _ _ _ _ _ _ _ (by rw [sched_lo bl i hlt]; exact BJ.out) HBJ.out
end Go.Proofs.Ytakebmpnbdlcoaa
