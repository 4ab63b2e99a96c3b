/- A round of an inner loop of capstanref2.Sum. -/
import Derived.Test.YtakebmpnbdlcoaaRefS5
set_option linter.unusedSimpArgs false
set_option linter.unusedVariables false
namespace Go.Proofs.Ytakebmpnbdlcoaa
open Go.RowKit
set_option maxRecDepth 100000
set_option maxRecDepth 1000000 in
set_option maxHeartbeats 8000000 in
theorem refS6 (s0 s1 s2 s4 s5 s6 s7 s9 s10 s11 s12 s13 s14 s17 s18 s19 s20 s21 s22 s23 s24 s25 s26 s27 s28 s29 s30 s31 s32 s33 s34 s35 s36 s37 s38 s39 s40 s41 s42 s43 s44 s45 s46 s47 s48 s49 s50 s51 s52 s53 s54 s55 s56 s57 s58 s59 s60 s61 s62 s63 s64 s65 s66 s67 s68 s69 s70 s71 s72 s73 s74 s75 s76 s77 s78 s79 s80 s81 s82 s83 s84 s85 s86 s87 s88 s89 s90 s91 s92 s93 s94 s95 s96 s97 s98 s99 s100 s101 s102 s103 s104 s105 s106 s107 s108 s109 s110 s111 s112 s113 s114 s115 s116 s117 s118 s119 s120 s121 s122 s123 s124 s125 s126 s127 s128 s129 s130 s131 s132 s133 s134 s135 s136 s137 s138 s139 s140 s141 s142 s143 s144 s145 s146 s147 s148 s149 s150 s151 s152 s153 s154 s155 s156 s157 s158 s159 s160 s161 s162 s163 s164 s165 s166 s167 s168 s169 s170 s171 s172 s173 s174 s175 s176 s177 s178 s179 s180 s181 s182 s183 s184 s185 s186 s187 s188 s189 s190 s191 s192 s193 s194 s195 s196 s197 s198 s199 s200 s201 s202 s203 s204 s205 s206 s207 s208 s209 s210 s211 s212 s213 s214 s215 s216 s217 s218 s219 s220 s221 s222 s223 s224 s225 s226 s227 s228 s229 s230 s231 s232 s233 s234 s235 s236 s237 s238 s239 s240 s241 s242 s243 s244 s245 s246 s247 s248 s249 s250 s251 s252 s253 s254 s255 s256 s257 s258 s259 s260 s261 s262 s263 s264 s265 s266 s267 s268 s269 s270 s271 s272 s273 s274 s275 s276 s277 : Value)
    (pK pW pA i kk x : Nat) (ks ws : List Nat) (u : S8) (wr : World) (Q : Exit → Act → World → Prop) (hP : ∀ (d : Option Tmp) (v : Value) c a w, Q (.panic c) (a.put d v) w → Q (.panic c) a w)
    (hlt : i < 64) (hoki : u.ok) (hkk : kk < 4294967296) (hww : x < 4294967296) (gk : ks[i]? = some kk) (gw : ws[i]? = some x) (bi : Blk wr pA 89 (V32 u.list)) (v6i : Blk wr pK 93 (V32 ks)) (v5i : Blk wr pW 93 (V32 ws))
    (hQ : ∀ (n142 n143 n144 n145 n146 n147 n148 n149 n150 n151 n152 n153 n154 n155 n156 n157 n158 n159 n160 n161 n162 n163 n164 n165 n166 n167 n168 n169 n170 n171 n172 n173 n174 n175 n176 n177 n178 n179 n180 n181 n182 n183 n184 n185 n186 n187 n188 n189 n190 n191 n192 n193 n194 n195 n196 n197 n198 n199 n200 n201 n202 n203 n204 n205 n206 n207 n208 n209 n210 n211 n212 n213 n214 n215 n216 n217 n218 n219 n220 n221 n222 n223 n224 n225 n226 n17 n18 n19 : Value) (w' : World), Blk w' pA 89 (V32 (rnd u kk x).list) → RBut (some pA) wr w' → Q .normal ⟨#[s0, s1, s2, (.pointer (some ⟨pK, 0, none⟩)), s4, s5, s6, s7, (.pointer (some ⟨pW, 0, none⟩)), s9, s10, s11, s12, s13, s14, (.pointer (some ⟨pA, 0, none⟩)), (.int .i64 ((i : Int) + 1)), n17, n18, n19, s20, s21, s22, s23, s24, s25, s26, s27, s28, s29, s30, s31, s32, s33, s34, s35, s36, s37, s38, s39, s40, s41, s42, s43, s44, s45, s46, s47, s48, s49, s50, s51, s52, s53, s54, s55, s56, s57, s58, s59, s60, s61, s62, s63, s64, s65, s66, s67, s68, s69, s70, s71, s72, s73, s74, s75, s76, s77, s78, s79, s80, s81, s82, s83, s84, s85, s86, s87, s88, s89, s90, s91, s92, s93, s94, s95, s96, s97, s98, s99, s100, s101, s102, s103, s104, s105, s106, s107, s108, s109, s110, s111, s112, s113, s114, s115, s116, s117, s118, s119, s120, s121, s122, s123, s124, s125, s126, s127, s128, s129, s130, s131, s132, s133, s134, s135, s136, s137, s138, s139, s140, s141, n142, n143, n144, n145, n146, n147, n148, n149, n150, n151, n152, n153, n154, n155, n156, n157, n158, n159, n160, n161, n162, n163, n164, n165, n166, n167, n168, n169, n170, n171, n172, n173, n174, n175, n176, n177, n178, n179, n180, n181, n182, n183, n184, n185, n186, n187, n188, n189, n190, n191, n192, n193, n194, n195, n196, n197, n198, n199, n200, n201, n202, n203, n204, n205, n206, n207, n208, n209, n210, n211, n212, n213, n214, n215, n216, n217, n218, n219, n220, n221, n222, n223, n224, n225, n226, s227, s228, s229, s230, s231, s232, s233, s234, s235, s236, s237, s238, s239, s240, s241, s242, s243, s244, s245, s246, s247, s248, s249, s250, s251, s252, s253, s254, s255, s256, s257, s258, s259, s260, s261, s262, s263, s264, s265, s266, s267, s268, s269, s270, s271, s272, s273, s274, s275, s276, s277], []⟩ w') :
    Code.wp Try.prog (refBody 5) Q ⟨#[s0, s1, s2, (.pointer (some ⟨pK, 0, none⟩)), s4, s5, s6, s7, (.pointer (some ⟨pW, 0, none⟩)), s9, s10, s11, s12, s13, s14, (.pointer (some ⟨pA, 0, none⟩)), (.int .i64 (i : Int)), s17, s18, s19, s20, s21, s22, s23, s24, s25, s26, s27, s28, s29, s30, s31, s32, s33, s34, s35, s36, s37, s38, s39, s40, s41, s42, s43, s44, s45, s46, s47, s48, s49, s50, s51, s52, s53, s54, s55, s56, s57, s58, s59, s60, s61, s62, s63, s64, s65, s66, s67, s68, s69, s70, s71, s72, s73, s74, s75, s76, s77, s78, s79, s80, s81, s82, s83, s84, s85, s86, s87, s88, s89, s90, s91, s92, s93, s94, s95, s96, s97, s98, s99, s100, s101, s102, s103, s104, s105, s106, s107, s108, s109, s110, s111, s112, s113, s114, s115, s116, s117, s118, s119, s120, s121, s122, s123, s124, s125, s126, s127, s128, s129, s130, s131, s132, s133, s134, s135, s136, s137, s138, s139, s140, s141, s142, s143, s144, s145, s146, s147, s148, s149, s150, s151, s152, s153, s154, s155, s156, s157, s158, s159, s160, s161, s162, s163, s164, s165, s166, s167, s168, s169, s170, s171, s172, s173, s174, s175, s176, s177, s178, s179, s180, s181, s182, s183, s184, s185, s186, s187, s188, s189, s190, s191, s192, s193, s194, s195, s196, s197, s198, s199, s200, s201, s202, s203, s204, s205, s206, s207, s208, s209, s210, s211, s212, s213, s214, s215, s216, s217, s218, s219, s220, s221, s222, s223, s224, s225, s226, s227, s228, s229, s230, s231, s232, s233, s234, s235, s236, s237, s238, s239, s240, s241, s242, s243, s244, s245, s246, s247, s248, s249, s250, s251, s252, s253, s254, s255, s256, s257, s258, s259, s260, s261, s262, s263, s264, s265, s266, s267, s268, s269, s270, s271, s272, s273, s274, s275, s276, s277], []⟩ wr := by
  conv => arg 2; whnf
  have hbi : RBut (some pA) wr wr := RBut.refl_ _ _
  have t1 : (i : Int) < 64 := by omega
  obtain ⟨ua, ub, uc, ud, ue, uf, ug, uh⟩ := u
  obtain ⟨ka, kb, kc, kd, ke, kf, kg, kh⟩ := hoki
  simp only [S8.list] at bi
  dsimp only at ka kb kc kd ke kf kg kh
  have HGK := Lib.hid gk
  have HGW := Lib.hid gw
  have e4 : wr.cell? ⟨pA, 4, none⟩ = some (.int .u32 (ue : Int)) := Blk.at_ bi 4 rfl wr (RBel.refl_ _)
  clear gk gw
  go_wp2_with fail
  clear e4
  have c5 : ∀ w', RBel wr.drew w' → w'.cell? ⟨pA, 5, none⟩ = some (.int .u32 (uf : Int)) := Blk.at_ (w := wr.drew) bi 5 rfl
  have c6 : ∀ w', RBel wr.drew w' → w'.cell? ⟨pA, 6, none⟩ = some (.int .u32 (ug : Int)) := Blk.at_ (w := wr.drew) bi 6 rfl
  have c7 : ∀ w', RBel wr.drew w' → w'.cell? ⟨pA, 7, none⟩ = some (.int .u32 (uh : Int)) := Blk.at_ (w := wr.drew) bi 7 rfl
  have ck : ∀ w', RBel wr.drew w' → w'.cell? ⟨pK, i, none⟩ = some (.int .u32 (kk : Int)) := Blk.at_ (w := wr.drew) v6i i (V32_get HGK.out)
  have cx : ∀ w', RBel wr.drew w' → w'.cell? ⟨pW, i, none⟩ = some (.int .u32 (x : Int)) := Blk.at_ (w := wr.drew) v5i i (V32_get HGW.out)
  have Y0 := usig1_bits ue ke
  have Y1 := chs_bits ue uf ug ke kf kg
  have sg : IntKind.u32.signed = false := rfl
  have Y2 := sum5 uh (usig1 ue) (chs ue uf ug) kk x
  obtain ⟨X, hX⟩ : ∃ X, X = (uh + usig1 ue + chs ue uf ug + kk + x) % 4294967296 := ⟨_, rfl⟩
  have hXl : X < 4294967296 := by rw [hX]; exact Nat.mod_lt _ (by decide)
  rw [← hX] at Y2
  have HX := Lib.hid hX
  clear hX
  refine wp_region_C [(0, true), (1, true), (2, true), (4, true), (7, true), (11, true), (12, true), (13, true), (14, true), (15, true), (16, true), (17, true), (18, true), (19, true), (20, true), (22, true), (23, true), (24, true), (26, true), (27, true), (28, true), (3, false), (5, false), (6, true), (8, false), (9, false), (10, false), (21, false), (25, false), (29, false), (30, false)] RBel (by kernel_rfl) (by kernel_rfl) (by kernel_rfl) (by decide) RBel.refl_ RBel.trans_ (by intro d v c a w h; exact hP d v c a w h) ?_
  repeat (first | (refine wpC_quiet (v := ?_) rfl (by rfl) ?_ ?_; rotate_left; (· (intro w' hw'; go_simp; try with_reducible rfl)); simp only [Act.put, List.setIfInBounds_toArray, List.set_cons_zero, List.set_cons_succ]) | (refine wpC_val (v := ?_) (RBel.refl_) rfl (by rfl) ?_ ?_; rotate_left; (· (go_simp; try with_reducible rfl)); simp only [Act.put, List.setIfInBounds_toArray, List.set_cons_zero, List.set_cons_succ]) | (refine wpC_skip rfl (by rfl) ?_; simp only [Act.put, List.setIfInBounds_toArray, List.set_cons_zero, List.set_cons_succ]) | (refine wpC_skip' (RBel.refl_) rfl (by rfl) ?_; simp only [Act.put, List.setIfInBounds_toArray, List.set_cons_zero, List.set_cons_succ]))
  (refine wpC_loud rfl (by rfl) ?_; intro K hK; go_simp)
  refine (rot_any ue 6 _ ke (by omega) (by omega)).mono ?_
  rintro e w' ⟨rfl, rfl⟩
  (refine hK.out _ _ (RBel.refl_ _) ?_; clear hK K; try simp only [Act.put, List.setIfInBounds_toArray, List.set_cons_zero, List.set_cons_succ])
  (refine wpC_loud rfl (by rfl) ?_; intro K hK; go_simp)
  refine (rot_any ue 11 _ ke (by omega) (by omega)).mono ?_
  rintro e w' ⟨rfl, rfl⟩
  (refine hK.out _ _ (RBel.refl_ _) ?_; clear hK K; try simp only [Act.put, List.setIfInBounds_toArray, List.set_cons_zero, List.set_cons_succ])
  repeat (first | (refine wpC_quiet (v := ?_) rfl (by rfl) ?_ ?_; rotate_left; (· (intro w' hw'; go_simp; try with_reducible rfl)); simp only [Act.put, List.setIfInBounds_toArray, List.set_cons_zero, List.set_cons_succ]) | (refine wpC_val (v := ?_) (RBel.refl_) rfl (by rfl) ?_ ?_; rotate_left; (· (go_simp; try with_reducible rfl)); simp only [Act.put, List.setIfInBounds_toArray, List.set_cons_zero, List.set_cons_succ]) | (refine wpC_skip rfl (by rfl) ?_; simp only [Act.put, List.setIfInBounds_toArray, List.set_cons_zero, List.set_cons_succ]) | (refine wpC_skip' (RBel.refl_) rfl (by rfl) ?_; simp only [Act.put, List.setIfInBounds_toArray, List.set_cons_zero, List.set_cons_succ]))
  (refine wpC_loud rfl (by rfl) ?_; intro K hK; go_simp)
  refine (rot_any ue 25 _ ke (by omega) (by omega)).mono ?_
  rintro e w' ⟨rfl, rfl⟩
  (refine hK.out _ _ (RBel.refl_ _) ?_; clear hK K; try simp only [Act.put, List.setIfInBounds_toArray, List.set_cons_zero, List.set_cons_succ])
  repeat (first | (refine wpC_quiet (v := ?_) rfl (by rfl) ?_ ?_; rotate_left; (· (intro w' hw'; go_simp; try with_reducible rfl)); simp only [Act.put, List.setIfInBounds_toArray, List.set_cons_zero, List.set_cons_succ]) | (refine wpC_val (v := ?_) (RBel.refl_) rfl (by rfl) ?_ ?_; rotate_left; (· (go_simp; try with_reducible rfl)); simp only [Act.put, List.setIfInBounds_toArray, List.set_cons_zero, List.set_cons_succ]) | (refine wpC_skip rfl (by rfl) ?_; simp only [Act.put, List.setIfInBounds_toArray, List.set_cons_zero, List.set_cons_succ]) | (refine wpC_skip' (RBel.refl_) rfl (by rfl) ?_; simp only [Act.put, List.setIfInBounds_toArray, List.set_cons_zero, List.set_cons_succ]))
  refine wpC_nil ?_
  clear c5 c6 c7 ck cx Y0 Y1 Y2 sg
  go_wp2_with fail
  have c0 : ∀ w', RBel wr.drew.drew w' → w'.cell? ⟨pA, 0, none⟩ = some (.int .u32 (ua : Int)) := Blk.at_ (w := wr.drew.drew) bi 0 rfl
  have c1 : ∀ w', RBel wr.drew.drew w' → w'.cell? ⟨pA, 1, none⟩ = some (.int .u32 (ub : Int)) := Blk.at_ (w := wr.drew.drew) bi 1 rfl
  have c2 : ∀ w', RBel wr.drew.drew w' → w'.cell? ⟨pA, 2, none⟩ = some (.int .u32 (uc : Int)) := Blk.at_ (w := wr.drew.drew) bi 2 rfl
  have Y0 := usig0_bits ua ka
  have Y1 := maj_bits ua ub uc ka kb kc
  have Y2 := sum2 (usig0 ua) (maj ua ub uc)
  obtain ⟨Y, hY⟩ : ∃ Y, Y = (usig0 ua + maj ua ub uc) % 4294967296 := ⟨_, rfl⟩
  have hYl : Y < 4294967296 := by rw [hY]; exact Nat.mod_lt _ (by decide)
  rw [← hY] at Y2
  have HY := Lib.hid hY
  clear hY
  refine wp_region_C [(0, true), (1, true), (3, true), (4, true), (7, true), (8, true), (11, true), (12, true), (13, true), (14, true), (15, true), (16, true), (17, true), (18, true), (19, true), (20, true), (21, true), (22, true), (23, true), (24, true), (25, true), (26, true), (27, true), (2, false), (5, false), (6, true), (9, false), (10, false), (28, false), (29, false)] RBel (by kernel_rfl) (by kernel_rfl) (by kernel_rfl) (by decide) RBel.refl_ RBel.trans_ (by intro d v c a w h; exact hP d v c a w h) ?_
  repeat (first | (refine wpC_quiet (v := ?_) rfl (by rfl) ?_ ?_; rotate_left; (· (intro w' hw'; go_simp; try with_reducible rfl)); simp only [Act.put, List.setIfInBounds_toArray, List.set_cons_zero, List.set_cons_succ]) | (refine wpC_val (v := ?_) (RBel.refl_) rfl (by rfl) ?_ ?_; rotate_left; (· (go_simp; try with_reducible rfl)); simp only [Act.put, List.setIfInBounds_toArray, List.set_cons_zero, List.set_cons_succ]) | (refine wpC_skip rfl (by rfl) ?_; simp only [Act.put, List.setIfInBounds_toArray, List.set_cons_zero, List.set_cons_succ]) | (refine wpC_skip' (RBel.refl_) rfl (by rfl) ?_; simp only [Act.put, List.setIfInBounds_toArray, List.set_cons_zero, List.set_cons_succ]))
  (refine wpC_loud rfl (by rfl) ?_; intro K hK; go_simp)
  refine (rot_any ua 2 _ ka (by omega) (by omega)).mono ?_
  rintro e w' ⟨rfl, rfl⟩
  (refine hK.out _ _ (RBel.refl_ _) ?_; clear hK K; try simp only [Act.put, List.setIfInBounds_toArray, List.set_cons_zero, List.set_cons_succ])
  (refine wpC_loud rfl (by rfl) ?_; intro K hK; go_simp)
  refine (rot_any ua 13 _ ka (by omega) (by omega)).mono ?_
  rintro e w' ⟨rfl, rfl⟩
  (refine hK.out _ _ (RBel.refl_ _) ?_; clear hK K; try simp only [Act.put, List.setIfInBounds_toArray, List.set_cons_zero, List.set_cons_succ])
  repeat (first | (refine wpC_quiet (v := ?_) rfl (by rfl) ?_ ?_; rotate_left; (· (intro w' hw'; go_simp; try with_reducible rfl)); simp only [Act.put, List.setIfInBounds_toArray, List.set_cons_zero, List.set_cons_succ]) | (refine wpC_val (v := ?_) (RBel.refl_) rfl (by rfl) ?_ ?_; rotate_left; (· (go_simp; try with_reducible rfl)); simp only [Act.put, List.setIfInBounds_toArray, List.set_cons_zero, List.set_cons_succ]) | (refine wpC_skip rfl (by rfl) ?_; simp only [Act.put, List.setIfInBounds_toArray, List.set_cons_zero, List.set_cons_succ]) | (refine wpC_skip' (RBel.refl_) rfl (by rfl) ?_; simp only [Act.put, List.setIfInBounds_toArray, List.set_cons_zero, List.set_cons_succ]))
  (refine wpC_loud rfl (by rfl) ?_; intro K hK; go_simp)
  refine (rot_any ua 22 _ ka (by omega) (by omega)).mono ?_
  rintro e w' ⟨rfl, rfl⟩
  (refine hK.out _ _ (RBel.refl_ _) ?_; clear hK K; try simp only [Act.put, List.setIfInBounds_toArray, List.set_cons_zero, List.set_cons_succ])
  repeat (first | (refine wpC_quiet (v := ?_) rfl (by rfl) ?_ ?_; rotate_left; (· (intro w' hw'; go_simp; try with_reducible rfl)); simp only [Act.put, List.setIfInBounds_toArray, List.set_cons_zero, List.set_cons_succ]) | (refine wpC_val (v := ?_) (RBel.refl_) rfl (by rfl) ?_ ?_; rotate_left; (· (go_simp; try with_reducible rfl)); simp only [Act.put, List.setIfInBounds_toArray, List.set_cons_zero, List.set_cons_succ]) | (refine wpC_skip rfl (by rfl) ?_; simp only [Act.put, List.setIfInBounds_toArray, List.set_cons_zero, List.set_cons_succ]) | (refine wpC_skip' (RBel.refl_) rfl (by rfl) ?_; simp only [Act.put, List.setIfInBounds_toArray, List.set_cons_zero, List.set_cons_succ]))
  refine wpC_nil ?_
  clear c0 c1 c2 Y0 Y1 Y2
  have bi3 : Blk wr.drew.drew pA 89 (V32 [ua, ub, uc, ud, ue, uf, ug, uh]) := bi
  have hbi3 : RBut (some pA) wr wr.drew.drew := RBut.trans_ _ _ _ _ hbi (RBut.of_below (Below.refl _ _).drew.drew)
  generalize wr.drew.drew = wt at *
  have d0 := bi3.cell 0
  have d1 := bi3.cell 1
  have d2 := bi3.cell 2
  have d3 := bi3.cell 3
  have d4 := bi3.cell 4
  have d5 := bi3.cell 5
  have d6 := bi3.cell 6
  have d7 := bi3.cell 7
  have f0 := bi3.fz 0
  have f1 := bi3.fz 1
  have f2 := bi3.fz 2
  have f3 := bi3.fz 3
  have f4 := bi3.fz 4
  have f5 := bi3.fz 5
  have f6 := bi3.fz 6
  have f7 := bi3.fz 7
  simp only [V32, List.map_cons, List.getElem?_cons_zero, List.getElem?_cons_succ] at d0 d1 d2 d3 d4 d5 d6 d7
  obtain ⟨Z, hZ⟩ : ∃ Z, Z = (X + Y) % 4294967296 := ⟨_, rfl⟩
  obtain ⟨Z2, hZ2⟩ : ∃ Z2, Z2 = (ud + X) % 4294967296 := ⟨_, rfl⟩
  have hs : rnd ⟨ua, ub, uc, ud, ue, uf, ug, uh⟩ kk x = ⟨Z, ua, ub, uc, Z2, ue, uf, ug⟩ := by
    rw [hZ, hZ2, HX.out, HY.out]
    unfold rnd
    simp only [S8.mk.injEq, and_true, true_and]
    omega
  have z1 : ((X : Int) + (Y : Int)) % 4294967296 = (Z : Int) := by omega
  have z2 : ((ud : Int) + (X : Int)) % 4294967296 = (Z2 : Int) := by omega
  have HS := Lib.hid hs
  clear hZ hZ2 hs
  go_wp2_with fail
  have st := store8 bi3 (.int .u32 (Z : Int)) (.int .u32 (ua : Int)) (.int .u32 (ub : Int)) (.int .u32 (uc : Int)) (.int .u32 (Z2 : Int)) (.int .u32 (ue : Int)) (.int .u32 (uf : Int)) (.int .u32 (ug : Int))
  exact hQ _ _ _ _ _ _ _ _ _ _ _ _ _ _ _ _ _ _ _ _ _ _ _ _ _ _ _ _ _ _ _ _ _ _ _ _ _ _ _ _ _ _ _ _ _ _ _ _ _ _ _ _ _ _ _ _ _ _ _ _ _ _ _ _ _ _ _ _ _ _ _ _ _ _ _ _ _ _ _ _ _ _ _ _ _ _ _ _ _ (by rw [HS.out]; exact st.1) (RBut.trans_ _ _ _ _ hbi3 st.2)
end Go.Proofs.Ytakebmpnbdlcoaa
