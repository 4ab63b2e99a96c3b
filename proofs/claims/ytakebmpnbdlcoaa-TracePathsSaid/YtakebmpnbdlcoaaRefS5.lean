/- A round of an inner loop of capstanref2.Sum. -/
import Derived.Test.YtakebmpnbdlcoaaRefS4
set_option linter.unusedSimpArgs false
set_option linter.unusedVariables false
namespace Go.Proofs.Ytakebmpnbdlcoaa
open Go.RowKit
set_option maxRecDepth 100000
set_option maxRecDepth 1000000 in
set_option maxHeartbeats 8000000 in
theorem refS5 (s0 s1 s2 s3 s4 s5 s6 s7 s9 s10 s11 s13 s14 s15 s16 s17 s18 s19 s20 s21 s22 s23 s24 s25 s26 s27 s28 s29 s30 s31 s32 s33 s34 s35 s36 s37 s38 s39 s40 s41 s42 s43 s44 s45 s46 s47 s48 s49 s50 s51 s52 s53 s54 s55 s56 s57 s58 s59 s60 s61 s62 s63 s64 s65 s66 s67 s68 s69 s70 s71 s72 s73 s74 s75 s76 s77 s78 s79 s80 s81 s82 s83 s84 s85 s86 s87 s88 s89 s90 s91 s92 s93 s94 s95 s96 s97 s98 s99 s100 s101 s102 s103 s104 s105 s106 s107 s108 s109 s110 s111 s112 s113 s114 s115 s116 s117 s118 s119 s120 s121 s122 s123 s124 s125 s126 s127 s128 s129 s130 s131 s132 s133 s134 s135 s136 s137 s138 s139 s140 s141 s142 s143 s144 s145 s146 s147 s148 s149 s150 s151 s152 s153 s154 s155 s156 s157 s158 s159 s160 s161 s162 s163 s164 s165 s166 s167 s168 s169 s170 s171 s172 s173 s174 s175 s176 s177 s178 s179 s180 s181 s182 s183 s184 s185 s186 s187 s188 s189 s190 s191 s192 s193 s194 s195 s196 s197 s198 s199 s200 s201 s202 s203 s204 s205 s206 s207 s208 s209 s210 s211 s212 s213 s214 s215 s216 s217 s218 s219 s220 s221 s222 s223 s224 s225 s226 s227 s228 s229 s230 s231 s232 s233 s234 s235 s236 s237 s238 s239 s240 s241 s242 s243 s244 s245 s246 s247 s248 s249 s250 s251 s252 s253 s254 s255 s256 s257 s258 s259 s260 s261 s262 s263 s264 s265 s266 s267 s268 s269 s270 s271 s272 s273 s274 s275 s276 s277 : Value)
    (pW i : Nat) (bl : List UInt8) (old : List Nat) (wr : World) (Q : Exit → Act → World → Prop) (hP : ∀ (d : Option Tmp) (v : Value) c a w, Q (.panic c) (a.put d v) w → Q (.panic c) a w)
    (hi16 : 16 ≤ i) (hlt : i < 64) (hold' : Hid (old.length = 64)) (bi : Blk wr pW 93 (V32 (sched bl i ++ old.drop i)))
    (hQ : ∀ (n100 n101 n102 n103 n104 n105 n106 n107 n108 n109 n110 n111 n112 n113 n114 n115 n116 n117 n118 n119 n120 n121 n122 n123 n124 n125 n126 n127 n128 n129 n130 n131 n132 n133 n134 n135 n136 n137 n138 n139 n140 n13 n14 : Value) (w' : World), Blk w' pW 93 (V32 (sched bl (i + 1) ++ old.drop (i + 1))) → RBut (some pW) wr w' → Q .normal ⟨#[s0, s1, s2, s3, s4, s5, s6, s7, (.pointer (some ⟨pW, 0, none⟩)), s9, s10, s11, (.int .i64 ((i : Int) + 1)), n13, n14, s15, s16, s17, s18, s19, s20, s21, s22, s23, s24, s25, s26, s27, s28, s29, s30, s31, s32, s33, s34, s35, s36, s37, s38, s39, s40, s41, s42, s43, s44, s45, s46, s47, s48, s49, s50, s51, s52, s53, s54, s55, s56, s57, s58, s59, s60, s61, s62, s63, s64, s65, s66, s67, s68, s69, s70, s71, s72, s73, s74, s75, s76, s77, s78, s79, s80, s81, s82, s83, s84, s85, s86, s87, s88, s89, s90, s91, s92, s93, s94, s95, s96, s97, s98, s99, n100, n101, n102, n103, n104, n105, n106, n107, n108, n109, n110, n111, n112, n113, n114, n115, n116, n117, n118, n119, n120, n121, n122, n123, n124, n125, n126, n127, n128, n129, n130, n131, n132, n133, n134, n135, n136, n137, n138, n139, n140, s141, s142, s143, s144, s145, s146, s147, s148, s149, s150, s151, s152, s153, s154, s155, s156, s157, s158, s159, s160, s161, s162, s163, s164, s165, s166, s167, s168, s169, s170, s171, s172, s173, s174, s175, s176, s177, s178, s179, s180, s181, s182, s183, s184, s185, s186, s187, s188, s189, s190, s191, s192, s193, s194, s195, s196, s197, s198, s199, s200, s201, s202, s203, s204, s205, s206, s207, s208, s209, s210, s211, s212, s213, s214, s215, s216, s217, s218, s219, s220, s221, s222, s223, s224, s225, s226, s227, s228, s229, s230, s231, s232, s233, s234, s235, s236, s237, s238, s239, s240, s241, s242, s243, s244, s245, s246, s247, s248, s249, s250, s251, s252, s253, s254, s255, s256, s257, s258, s259, s260, s261, s262, s263, s264, s265, s266, s267, s268, s269, s270, s271, s272, s273, s274, s275, s276, s277], []⟩ w') :
    Code.wp Try.prog (refBody 4) Q ⟨#[s0, s1, s2, s3, s4, s5, s6, s7, (.pointer (some ⟨pW, 0, none⟩)), s9, s10, s11, (.int .i64 (i : Int)), s13, s14, s15, s16, s17, s18, s19, s20, s21, s22, s23, s24, s25, s26, s27, s28, s29, s30, s31, s32, s33, s34, s35, s36, s37, s38, s39, s40, s41, s42, s43, s44, s45, s46, s47, s48, s49, s50, s51, s52, s53, s54, s55, s56, s57, s58, s59, s60, s61, s62, s63, s64, s65, s66, s67, s68, s69, s70, s71, s72, s73, s74, s75, s76, s77, s78, s79, s80, s81, s82, s83, s84, s85, s86, s87, s88, s89, s90, s91, s92, s93, s94, s95, s96, s97, s98, s99, s100, s101, s102, s103, s104, s105, s106, s107, s108, s109, s110, s111, s112, s113, s114, s115, s116, s117, s118, s119, s120, s121, s122, s123, s124, s125, s126, s127, s128, s129, s130, s131, s132, s133, s134, s135, s136, s137, s138, s139, s140, s141, s142, s143, s144, s145, s146, s147, s148, s149, s150, s151, s152, s153, s154, s155, s156, s157, s158, s159, s160, s161, s162, s163, s164, s165, s166, s167, s168, s169, s170, s171, s172, s173, s174, s175, s176, s177, s178, s179, s180, s181, s182, s183, s184, s185, s186, s187, s188, s189, s190, s191, s192, s193, s194, s195, s196, s197, s198, s199, s200, s201, s202, s203, s204, s205, s206, s207, s208, s209, s210, s211, s212, s213, s214, s215, s216, s217, s218, s219, s220, s221, s222, s223, s224, s225, s226, s227, s228, s229, s230, s231, s232, s233, s234, s235, s236, s237, s238, s239, s240, s241, s242, s243, s244, s245, s246, s247, s248, s249, s250, s251, s252, s253, s254, s255, s256, s257, s258, s259, s260, s261, s262, s263, s264, s265, s266, s267, s268, s269, s270, s271, s272, s273, s274, s275, s276, s277], []⟩ wr := by
  conv => arg 2; whnf
  have hbi : RBut (some pW) wr wr := RBut.refl_ _ _
  have t1 : (i : Int) < 64 := by omega
  go_wp2_with fail
  have hS : ∀ j, j < i → ∃ x, (sched bl i).getD j 0 = x ∧ ∀ w', RBel wr.drew w' → w'.cell? ⟨pW, j, none⟩ = some (.int .u32 (x : Int)) := by
    intro j hj
    refine ⟨(sched bl i).getD j 0, rfl, fun w' hw' => ?_⟩
    have hbk : Blk w' pW 93 (V32 (sched bl i ++ old.drop i)) := Blk.to (w := wr.drew) bi hw'
    rw [hbk.cell]
    refine V32_get ?_
    rw [List.getElem?_append_left (by rw [sched_len]; omega), List.getD, List.getElem?_eq_getElem (by rw [sched_len]; omega)]
    rfl
  have hB : ∀ j, (sched bl i).getD j 0 < 4294967296 := fun j => sched_lt bl i j
  obtain ⟨q16, h16⟩ : ∃ q, q = i - 16 := ⟨_, rfl⟩
  obtain ⟨q15, h15⟩ : ∃ q, q = i - 15 := ⟨_, rfl⟩
  obtain ⟨q7, h7⟩ : ∃ q, q = i - 7 := ⟨_, rfl⟩
  obtain ⟨q2, h2⟩ : ∃ q, q = i - 2 := ⟨_, rfl⟩
  obtain ⟨x16, g16, c16⟩ := hS q16 (by omega)
  obtain ⟨x15, g15, c15⟩ := hS q15 (by omega)
  obtain ⟨x7, g7, c7⟩ := hS q7 (by omega)
  obtain ⟨x2, g2, c2⟩ := hS q2 (by omega)
  have k16 := hB q16
  have k15 := hB q15
  have k7 := hB q7
  have k2 := hB q2
  rw [g16] at k16
  rw [g15] at k15
  rw [g7] at k7
  rw [g2] at k2
  have hx : nextW (sched bl i) i = (x16 + lsig0 x15 + x7 + lsig1 x2) % 4294967296 := by unfold nextW; rw [← h16, ← h15, ← h7, ← h2, g16, g15, g7, g2]
  have HX := Lib.hid hx
  have l16 : (q16 : Int) < 64 := by omega
  have l15 : (q15 : Int) < 64 := by omega
  have l7 : (q7 : Int) < 64 := by omega
  have l2 : (q2 : Int) < 64 := by omega
  have v16 : IntKind.i64.wrap ((i : Int) - 16) = (q16 : Int) := by rw [IntWalk.i64_in _ (by omega)]; omega
  have v15 : IntKind.i64.wrap ((i : Int) - 15) = (q15 : Int) := by rw [IntWalk.i64_in _ (by omega)]; omega
  have v7 : IntKind.i64.wrap ((i : Int) - 7) = (q7 : Int) := by rw [IntWalk.i64_in _ (by omega)]; omega
  have v2 : IntKind.i64.wrap ((i : Int) - 2) = (q2 : Int) := by rw [IntWalk.i64_in _ (by omega)]; omega
  have d16 : q16 ≠ i := by omega
  have d7 : q7 ≠ i := by omega
  have bi' : Blk wr.drew pW 93 (V32 (sched bl i ++ old.drop i)) := bi
  have hbi' := RBut.trans_ _ _ _ _ hbi (RBut.of_below (Below.refl _ _).drew)
  have e16 := c16 _ (RBel.refl_ _)
  have e7 := c7 _ (RBel.refl_ _)
  clear c16 c7 hS hB g16 g15 g7 g2 hx h16 h15 h7 h2 bi hbi
  refine wp_region_C [(0, true), (1, true), (2, true), (3, true), (4, true), (5, true), (6, true), (7, true), (8, false), (9, false)] RBel (by kernel_rfl) (by kernel_rfl) (by kernel_rfl) (by decide) RBel.refl_ RBel.trans_ (by intro d v c a w h; exact hP d v c a w h) ?_
  generalize wr.drew = wd at *
  repeat (first | (refine wpC_quiet (v := ?_) rfl (by rfl) ?_ ?_; rotate_left; (· (intro w' hw'; go_simp; try with_reducible rfl)); simp only [Act.put, List.setIfInBounds_toArray, List.set_cons_zero, List.set_cons_succ]) | (refine wpC_val (v := ?_) (RBel.refl_) rfl (by rfl) ?_ ?_; rotate_left; (· (go_simp; try with_reducible rfl)); simp only [Act.put, List.setIfInBounds_toArray, List.set_cons_zero, List.set_cons_succ]) | (refine wpC_skip rfl (by rfl) ?_; simp only [Act.put, List.setIfInBounds_toArray, List.set_cons_zero, List.set_cons_succ]) | (refine wpC_skip' (RBel.refl_) rfl (by rfl) ?_; simp only [Act.put, List.setIfInBounds_toArray, List.set_cons_zero, List.set_cons_succ]))
  refine wpC_nil ?_
  clear c15 c2
  go_wp2_with fail
  have e16' : ∀ w', RCell pW i wd.drew w' → w'.cell? ⟨pW, q16, none⟩ = some (.int .u32 (x16 : Int)) := fun w' hw' => (hw'.2 q16 d16).trans e16
  have e7' : ∀ w', RCell pW i wd.drew w' → w'.cell? ⟨pW, q7, none⟩ = some (.int .u32 (x7 : Int)) := fun w' hw' => (hw'.2 q7 d7).trans e7
  have bi'' : Blk wd.drew pW 93 (V32 (sched bl i ++ old.drop i)) := bi'
  have hbi'' := RBut.trans_ _ _ _ _ hbi' (RBut.of_below (Below.refl _ _).drew)
  clear e16 e7 d16 d7 bi' hbi' v15 v2
  refine wp_region_C [(0, true), (1, true), (3, true), (6, true), (7, true), (9, true), (10, true), (11, true), (12, true), (14, true), (16, true), (19, true), (20, true), (23, true), (24, true), (25, true), (26, true), (2, false), (4, false), (5, true), (8, true), (13, true), (15, false), (17, false), (18, false), (21, false), (22, false), (27, false), (28, false), (29, false)] (RCell pW i) (by kernel_rfl) (by kernel_rfl) (by kernel_rfl) (by decide) (RCell.refl_ _ _) (RCell.trans_ _ _) (by intro d v c a w h; exact hP d v c a w h) ?_
  generalize wd.drew = we at *
  have Y0 := lsig0_bits x15 k15
  have Y1 := lsig1_bits x2 k2
  have Y2 := sum4b x16 (lsig0 x15) x7 (lsig1 x2)
  rw [← HX.out] at Y2
  have e16'' := e16' we (RCell.refl_ _ _ _)
  repeat (first | (refine wpC_quiet (v := ?_) rfl (by rfl) ?_ ?_; rotate_left; (· (intro w' hw'; go_simp; try with_reducible rfl)); simp only [Act.put, List.setIfInBounds_toArray, List.set_cons_zero, List.set_cons_succ]) | (refine wpC_val (v := ?_) (RCell.refl_ _ _) rfl (by rfl) ?_ ?_; rotate_left; (· (go_simp; try with_reducible rfl)); simp only [Act.put, List.setIfInBounds_toArray, List.set_cons_zero, List.set_cons_succ]) | (refine wpC_skip rfl (by rfl) ?_; simp only [Act.put, List.setIfInBounds_toArray, List.set_cons_zero, List.set_cons_succ]) | (refine wpC_skip' (RCell.refl_ _ _) rfl (by rfl) ?_; simp only [Act.put, List.setIfInBounds_toArray, List.set_cons_zero, List.set_cons_succ]))
  (refine wpC_loud rfl (by rfl) ?_; intro K hK; go_simp)
  refine (rot_any x2 17 _ k2 (by omega) (by omega)).mono ?_
  rintro e w' ⟨rfl, rfl⟩
  (refine hK.out _ _ (RCell.refl_ _ _ _) ?_; clear hK K; try simp only [Act.put, List.setIfInBounds_toArray, List.set_cons_zero, List.set_cons_succ])
  (refine wpC_loud rfl (by rfl) ?_; intro K hK; go_simp)
  refine (rot_any x2 19 _ k2 (by omega) (by omega)).mono ?_
  rintro e w' ⟨rfl, rfl⟩
  (refine hK.out _ _ (RCell.refl_ _ _ _) ?_; clear hK K; try simp only [Act.put, List.setIfInBounds_toArray, List.set_cons_zero, List.set_cons_succ])
  repeat (first | (refine wpC_quiet (v := ?_) rfl (by rfl) ?_ ?_; rotate_left; (· (intro w' hw'; go_simp; try with_reducible rfl)); simp only [Act.put, List.setIfInBounds_toArray, List.set_cons_zero, List.set_cons_succ]) | (refine wpC_val (v := ?_) (RCell.refl_ _ _) rfl (by rfl) ?_ ?_; rotate_left; (· (go_simp; try with_reducible rfl)); simp only [Act.put, List.setIfInBounds_toArray, List.set_cons_zero, List.set_cons_succ]) | (refine wpC_skip rfl (by rfl) ?_; simp only [Act.put, List.setIfInBounds_toArray, List.set_cons_zero, List.set_cons_succ]) | (refine wpC_skip' (RCell.refl_ _ _) rfl (by rfl) ?_; simp only [Act.put, List.setIfInBounds_toArray, List.set_cons_zero, List.set_cons_succ]))
  (refine wpC_loud rfl (by rfl) ?_; intro K hK; go_simp)
  refine (rot_any x15 7 _ k15 (by omega) (by omega)).mono ?_
  rintro e w' ⟨rfl, rfl⟩
  (refine hK.out _ _ (RCell.refl_ _ _ _) ?_; clear hK K; try simp only [Act.put, List.setIfInBounds_toArray, List.set_cons_zero, List.set_cons_succ])
  (refine wpC_loud rfl (by rfl) ?_; intro K hK; go_simp)
  refine (rot_any x15 18 _ k15 (by omega) (by omega)).mono ?_
  rintro e w' ⟨rfl, rfl⟩
  (refine hK.out _ _ (RCell.refl_ _ _ _) ?_; clear hK K; try simp only [Act.put, List.setIfInBounds_toArray, List.set_cons_zero, List.set_cons_succ])
  repeat (first | (refine wpC_quiet (v := ?_) rfl (by rfl) ?_ ?_; rotate_left; (· (intro w' hw'; go_simp; try with_reducible rfl)); simp only [Act.put, List.setIfInBounds_toArray, List.set_cons_zero, List.set_cons_succ]) | (refine wpC_val (v := ?_) (RCell.refl_ _ _) rfl (by rfl) ?_ ?_; rotate_left; (· (go_simp; try with_reducible rfl)); simp only [Act.put, List.setIfInBounds_toArray, List.set_cons_zero, List.set_cons_succ]) | (refine wpC_skip rfl (by rfl) ?_; simp only [Act.put, List.setIfInBounds_toArray, List.set_cons_zero, List.set_cons_succ]) | (refine wpC_skip' (RCell.refl_ _ _) rfl (by rfl) ?_; simp only [Act.put, List.setIfInBounds_toArray, List.set_cons_zero, List.set_cons_succ]))
  have hol : i < old.length := by rw [hold'.out]; omega
  have ce : we.cell? ⟨pW, i, none⟩ = (V32 (sched bl i ++ old.drop i))[i]? := bi''.cell i
  rw [List.getElem?_eq_getElem (by rw [V32_len]; simp [sched_len]; omega)] at ce
  have fe := bi''.fz i
  have bj := bi''.set_ i (.int .u32 ((nextW (sched bl i) i : Nat) : Int))
  rw [old_set _ old i _ (sched_len bl i) hol] at bj
  have hbj := RBut.trans_ _ _ _ _ hbi'' (RBut.setC we pW i (.int .u32 ((nextW (sched bl i) i : Nat) : Int)))
  have rc := RCell.set_ bi'' (.int .u32 ((nextW (sched bl i) i : Nat) : Int)) (i := i)
  have BJ := Lib.hid bj
  have HBJ := Lib.hid hbj
  have RC := Lib.hid rc
  clear bj hbj rc
  generalize (V32 (sched bl i ++ old.drop i))[i]'_ = zz at ce
  (refine wpC_loud rfl (by rfl) ?_; intro K hK; go_simp)
  (refine hK.out _ _ (RC.out) ?_; clear hK K; try simp only [Act.put, List.setIfInBounds_toArray, List.set_cons_zero, List.set_cons_succ])
  refine wpC_nil ?_
  clear ce fe Y0 Y1 Y2
  go_wp2_with fail
  exact hQ _ _ _ _ _ _ _ _ _ _ _ _ _ _ _ _ _ _ _ _ _ _ _ _ _ _ _ _ _ _ _ _ _ _ _ _ _ _ _ _ _ _ _ _ (by rw [sched_hi bl i hi16]; exact BJ.out) HBJ.out
end Go.Proofs.Ytakebmpnbdlcoaa
