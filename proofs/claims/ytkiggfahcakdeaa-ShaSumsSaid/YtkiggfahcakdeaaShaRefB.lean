
/- The document's Sum: the schedule. -/

import Derived.Test.YtkiggfahcakdeaaShaRefA

namespace Go.Proofs.Ytkiggfahcakdeaa

set_option linter.unusedVariables false

set_option linter.unusedSimpArgs false

open Go.RowKit

attribute [local go_sem] w_xor w_and w_or w_not w_not' w_add w_addw w_shr3 w_shr10 w_conv8 w_shl24 w_shl16 w_shl8

set_option maxRecDepth 1000000 in
set_option maxHeartbeats 4000000 in
theorem ref_sched {u0 u1 u2 u3 u4 u5 u6 u7 u8 u10 u11 u13 u14 u15 u16 u17 u18 u19 u20 u21 u22 u23 u24 u25 u26 u27 u28 u29 u30 u31 u32 u33 u34 u35 u36 u37 u38 u39 u40 u41 u42 u43 u44 u45 u46 u47 u48 u49 u50 u51 u52 u53 u54 u55 u56 u57 u58 u59 u60 u61 u62 u63 u64 u65 u66 u67 u68 u69 u70 u71 u72 u73 u74 u75 u76 u77 u78 u79 u80 u81 u82 u83 u84 u85 u86 u87 u88 u89 u90 u91 u92 u93 u94 u95 u96 u97 u98 u99 u100 u101 u102 u103 u104 u105 u106 u107 u108 u109 u110 u111 u112 u113 u114 u115 u116 u117 u118 u119 u120 u121 u122 u123 u124 u125 u126 u127 u128 u129 u130 u131 u132 u133 u134 u135 u136 u137 u138 u139 u140 u141 u142 u143 u144 u145 u146 u147 u148 u149 u150 u151 u152 u153 u154 u155 u156 u157 u158 u159 u160 u161 u162 u163 u164 u165 u166 u167 u168 u169 u170 u171 u172 u173 u174 u175 u176 u177 u178 u179 u180 u181 u182 u183 u184 u185 u186 u187 u188 u189 u190 u191 u192 u193 u194 u195 u196 u197 u198 u199 u200 u201 u202 u203 u204 u205 u206 u207 u208 u209 u210 u211 u212 u213 u214 u215 u216 u217 u218 u219 u220 u221 u222 u223 u224 u225 u226 u227 u228 u229 u230 u231 u232 u233 u234 u235 u236 u237 u238 u239 u240 u241 u242 u243 u244 u245 u246 u247 u248 u249 u250 u251 u252 u253 u254 u255 u256 u257 u258 u259 u260 u261 u262 u263 u264 u265 u266 u267 u268 u269 u270 u271 u272 u273 u274 u275 u276 u277 u278 u279 u280 u281 u282 u283 u284 u285 u286 u287 u288 u289 u290 u291 u292 u293 u294 u295 u296 u297 u298 u299 u300 u301 u302 : Value} (q : Nat) (P : List UInt8) (wo wr : World) (v9 : Value) (hr16 : OwnW wo.heap.size wo wr v9 (wExt 0 (words (P.drop q)))) (Q : Exit → Act → World → Prop)
    (hexit : ∀ (x9 x12 x13 x14 x90 x91 x92 x93 x94 x95 x96 x97 x98 x99 x100 x101 x102 x103 x104 x105 x106 x107 x108 x109 x110 x111 x112 x113 x114 x115 x116 x117 x118 x119 x120 x121 x122 x123 x124 x125 x126 x127 x128 x129 x130 x131 x132 x133 x134 x135 x136 x137 x138 x139 x140 x141 x142 x143 x144 x145 x146 x147 x148 x149 x150 x151 : Value) (wx : World), OwnW wo.heap.size wo wx x9 (sched (P.drop q)) → Q .normal ⟨#[u0, u1, u2, u3, u4, u5, u6, u7, u8, x9, u10, u11, x12, x13, x14, u15, u16, u17, u18, u19, u20, u21, u22, u23, u24, u25, u26, u27, u28, u29, u30, u31, u32, u33, u34, u35, u36, u37, u38, u39, u40, u41, u42, u43, u44, u45, u46, u47, u48, u49, u50, u51, u52, u53, u54, u55, u56, u57, u58, u59, u60, u61, u62, u63, u64, u65, u66, u67, u68, u69, u70, u71, u72, u73, u74, u75, u76, u77, u78, u79, u80, u81, u82, u83, u84, u85, u86, u87, u88, u89, x90, x91, x92, x93, x94, x95, x96, x97, x98, x99, x100, x101, x102, x103, x104, x105, x106, x107, x108, x109, x110, x111, x112, x113, x114, x115, x116, x117, x118, x119, x120, x121, x122, x123, x124, x125, x126, x127, x128, x129, x130, x131, x132, x133, x134, x135, x136, x137, x138, x139, x140, x141, x142, x143, x144, x145, x146, x147, x148, x149, x150, x151, u152, u153, u154, u155, u156, u157, u158, u159, u160, u161, u162, u163, u164, u165, u166, u167, u168, u169, u170, u171, u172, u173, u174, u175, u176, u177, u178, u179, u180, u181, u182, u183, u184, u185, u186, u187, u188, u189, u190, u191, u192, u193, u194, u195, u196, u197, u198, u199, u200, u201, u202, u203, u204, u205, u206, u207, u208, u209, u210, u211, u212, u213, u214, u215, u216, u217, u218, u219, u220, u221, u222, u223, u224, u225, u226, u227, u228, u229, u230, u231, u232, u233, u234, u235, u236, u237, u238, u239, u240, u241, u242, u243, u244, u245, u246, u247, u248, u249, u250, u251, u252, u253, u254, u255, u256, u257, u258, u259, u260, u261, u262, u263, u264, u265, u266, u267, u268, u269, u270, u271, u272, u273, u274, u275, u276, u277, u278, u279, u280, u281, u282, u283, u284, u285, u286, u287, u288, u289, u290, u291, u292, u293, u294, u295, u296, u297, u298, u299, u300, u301, u302], []⟩ wx) :
    Code.wp Try.prog (refBlk 6) Q ⟨#[u0, u1, u2, u3, u4, u5, u6, u7, u8, v9, u10, u11, .int .i64 16, u13, u14, u15, u16, u17, u18, u19, u20, u21, u22, u23, u24, u25, u26, u27, u28, u29, u30, u31, u32, u33, u34, u35, u36, u37, u38, u39, u40, u41, u42, u43, u44, u45, u46, u47, u48, u49, u50, u51, u52, u53, u54, u55, u56, u57, u58, u59, u60, u61, u62, u63, u64, u65, u66, u67, u68, u69, u70, u71, u72, u73, u74, u75, u76, u77, u78, u79, u80, u81, u82, u83, u84, u85, u86, u87, u88, u89, u90, u91, u92, u93, u94, u95, u96, u97, u98, u99, u100, u101, u102, u103, u104, u105, u106, u107, u108, u109, u110, u111, u112, u113, u114, u115, u116, u117, u118, u119, u120, u121, u122, u123, u124, u125, u126, u127, u128, u129, u130, u131, u132, u133, u134, u135, u136, u137, u138, u139, u140, u141, u142, u143, u144, u145, u146, u147, u148, u149, u150, u151, u152, u153, u154, u155, u156, u157, u158, u159, u160, u161, u162, u163, u164, u165, u166, u167, u168, u169, u170, u171, u172, u173, u174, u175, u176, u177, u178, u179, u180, u181, u182, u183, u184, u185, u186, u187, u188, u189, u190, u191, u192, u193, u194, u195, u196, u197, u198, u199, u200, u201, u202, u203, u204, u205, u206, u207, u208, u209, u210, u211, u212, u213, u214, u215, u216, u217, u218, u219, u220, u221, u222, u223, u224, u225, u226, u227, u228, u229, u230, u231, u232, u233, u234, u235, u236, u237, u238, u239, u240, u241, u242, u243, u244, u245, u246, u247, u248, u249, u250, u251, u252, u253, u254, u255, u256, u257, u258, u259, u260, u261, u262, u263, u264, u265, u266, u267, u268, u269, u270, u271, u272, u273, u274, u275, u276, u277, u278, u279, u280, u281, u282, u283, u284, u285, u286, u287, u288, u289, u290, u291, u292, u293, u294, u295, u296, u297, u298, u299, u300, u301, u302], []⟩ wr := by
  have HEX := Lib.hid hexit
  clear hexit
  conv => arg 2; whnf
  go_wp2_with fail
  go_loopg [9, 12] 48 (fun gk_ v i wx => ∃ (j : Nat), j ≤ 48 ∧ gk_ = 48 - j ∧ i = .int .i64 ((j : Int) + 16) ∧ OwnW wo.heap.size wo wx v (wExt j (words (P.drop q))))
  case atStart => exact ⟨0, by omega, by omega, rfl, hr16⟩
  case round =>
    clear hr16
    obtain ⟨j, hj, rfl, rfl, hown⟩ := hrel
    obtain ⟨A9, n9, c9, rfl, hn9, hnc9, hc9, hr9⟩ := hown.slice
    unfold maxLen at hc9
    have hll : (wExt j (words (P.drop q))).length = j + 16 := by rw [wExt_len, words_len]; omega
    rw [hll] at hn9
    by_cases hlt2 : j < 48
    · skip
      have hbn := hown.bel
      have hln := wNext_eq _ j hll
      obtain ⟨b, o, rfl, d1⟩ := hr9.word (j + 1) (by omega)
      have d0 := hr9.wordat j (by omega)
      have d9 := hr9.wordat (j + 9) (by omega)
      have d14 := hr9.wordat (j + 14) (by omega)
      obtain ⟨x0, hx0⟩ : ∃ x, (wExt j (words (P.drop q)))[j]'(by omega) = x := ⟨_, rfl⟩
      obtain ⟨x1, hx1⟩ : ∃ x, (wExt j (words (P.drop q)))[j + 1]'(by omega) = x := ⟨_, rfl⟩
      obtain ⟨x9, hx9⟩ : ∃ x, (wExt j (words (P.drop q)))[j + 9]'(by omega) = x := ⟨_, rfl⟩
      obtain ⟨x14, hx14⟩ : ∃ x, (wExt j (words (P.drop q)))[j + 14]'(by omega) = x := ⟨_, rfl⟩
      rw [hx0] at d0 hln
      rw [hx1] at d1 hln
      rw [hx9] at d9 hln
      rw [hx14] at d14 hln
      have hlw : (wExt j (words (P.drop q))).length + 1 ≤ 1099511627776 := by omega
      have hnx : wExt (j + 1) (words (P.drop q)) = wExt j (words (P.drop q)) ++ [wNext (wExt j (words (P.drop q)))] := rfl
      rw [hln] at hnx
      have HNX := Lib.hid hnx
      have HLL := Lib.hid hll
      have HR9 := Lib.hid hr9
      have Hn9 := Lib.hid hn9
      have g1 : (j : Int) + 16 < 64 := by omega
      have e1 : IntKind.i64.wrap ((j : Int) + 16 - 15) = (j : Int) + 1 := by rw [wrap64_in _ (by omega) (by omega)]; omega
      have e14 : IntKind.i64.wrap ((j : Int) + 16 - 2) = (j : Int) + 14 := by rw [wrap64_in _ (by omega) (by omega)]; omega
      have e9 : IntKind.i64.wrap ((j : Int) + 16 - 7) = (j : Int) + 9 := by rw [wrap64_in _ (by omega) (by omega)]; omega
      have e0 : IntKind.i64.wrap ((j : Int) + 16 - 16) = (j : Int) := by rw [wrap64_in _ (by omega) (by omega)]; omega
      have e0' : IntKind.i64.wrap (j : Int) = (j : Int) := wrap64_in _ (by omega) (by omega)
      have p1 : (0 : Int) ≤ (j : Int) + 1 := by omega
      have p14 : (0 : Int) ≤ (j : Int) + 14 := by omega
      have p9 : (0 : Int) ≤ (j : Int) + 9 := by omega
      have i1 : (j : Int) + 1 < (n9 : Int) := by omega
      have i14 : (j : Int) + 14 < (n9 : Int) := by omega
      have i9 : (j : Int) + 9 < (n9 : Int) := by omega
      have i0 : (j : Int) < (n9 : Int) := by omega
      have t1 : ((j : Int) + 1).toNat = j + 1 := by omega
      have t14 : ((j : Int) + 14).toNat = j + 14 := by omega
      have t9 : ((j : Int) + 9).toNat = j + 9 := by omega
      clear hll hln hnx hx0 hx1 hx9 hx14 hr9 hn9
      go_wp2_with fail
      refine wp_region_sched (fun w' => w'.cell? ⟨b, o + (j + 1), none⟩ = some (.int .u32 (x1.toNat : Int))) [(true, 0), (true, 1), (true, 2), (true, 3), (true, 4), (true, 6), (true, 7), (true, 8), (true, 9), (true, 10), (true, 13), (true, 14), (true, 15), (true, 16), (true, 17), (true, 18), (false, 5), (false, 11), (true, 12), (true, 19), (true, 20)] (by kernel_rfl) (by kernel_rfl) rfl (by kernel_rfl) (by simpa using d1) ?_
      (repeat (first | (refine wpS_pass _ rfl (by rfl) ?_; simp only [Act.put, List.getElem_toArray, List.getElem_cons_zero, List.getElem_cons_succ, List.setIfInBounds_toArray, List.set_cons_zero, List.set_cons_succ]) | (refine wpS_take _ ?_ rfl (by rfl) ?_ ?_; rotate_left; (focus (intro w' hS'; (try dsimp only at hS'); (repeat (have hS1 := hS'.1; replace hS' := hS'.2)); go_simp; (try with_reducible rfl); done)); simp only [Act.put, List.getElem_toArray, List.getElem_cons_zero, List.getElem_cons_succ, List.setIfInBounds_toArray, List.set_cons_zero, List.set_cons_succ])))
      refine wpS_do _ rfl (by rfl) (fun K hK => ?_)
      go_simp
      refine (right_any x1 7 (by decide) (by decide) _).mono ?_
      rintro e w' ⟨rfl, rfl⟩
      refine hK.out _ _ (by simpa using d1) (fun hS => ?_)
      clear hK hS
      refine wpS_do _ rfl (by rfl) (fun K hK => ?_)
      go_simp
      refine (right_any x1 18 (by decide) (by decide) _).mono ?_
      rintro e w' ⟨rfl, rfl⟩
      refine hK.out _ _ (by simpa using d1) (fun hS => ?_)
      clear hK hS
      (repeat (first | (refine wpS_pass _ rfl (by rfl) ?_; simp only [Act.put, List.getElem_toArray, List.getElem_cons_zero, List.getElem_cons_succ, List.setIfInBounds_toArray, List.set_cons_zero, List.set_cons_succ]) | (refine wpS_take _ ?_ rfl (by rfl) ?_ ?_; rotate_left; (focus (intro w' hS'; (try dsimp only at hS'); (repeat (have hS1 := hS'.1; replace hS' := hS'.2)); go_simp; (try with_reducible rfl); done)); simp only [Act.put, List.getElem_toArray, List.getElem_cons_zero, List.getElem_cons_succ, List.setIfInBounds_toArray, List.set_cons_zero, List.set_cons_succ])))
      refine wpS_done ?_
      go_wp2_with fail
      refine wp_region_sched (fun w' => w'.cell? ⟨b, o + (j + 14), none⟩ = some (.int .u32 (x14.toNat : Int))) [(true, 0), (true, 1), (true, 2), (true, 3), (true, 4), (true, 6), (true, 7), (true, 8), (true, 9), (true, 10), (true, 13), (true, 14), (true, 15), (true, 16), (true, 17), (true, 18), (false, 5), (false, 11), (true, 12), (true, 19), (true, 20)] (by kernel_rfl) (by kernel_rfl) rfl (by kernel_rfl) (by simpa using d14) ?_
      (repeat (first | (refine wpS_pass _ rfl (by rfl) ?_; simp only [Act.put, List.getElem_toArray, List.getElem_cons_zero, List.getElem_cons_succ, List.setIfInBounds_toArray, List.set_cons_zero, List.set_cons_succ]) | (refine wpS_take _ ?_ rfl (by rfl) ?_ ?_; rotate_left; (focus (intro w' hS'; (try dsimp only at hS'); (repeat (have hS1 := hS'.1; replace hS' := hS'.2)); go_simp; (try with_reducible rfl); done)); simp only [Act.put, List.getElem_toArray, List.getElem_cons_zero, List.getElem_cons_succ, List.setIfInBounds_toArray, List.set_cons_zero, List.set_cons_succ])))
      refine wpS_do _ rfl (by rfl) (fun K hK => ?_)
      go_simp
      refine (right_any x14 17 (by decide) (by decide) _).mono ?_
      rintro e w' ⟨rfl, rfl⟩
      refine hK.out _ _ (by simpa using d14) (fun hS => ?_)
      clear hK hS
      refine wpS_do _ rfl (by rfl) (fun K hK => ?_)
      go_simp
      refine (right_any x14 19 (by decide) (by decide) _).mono ?_
      rintro e w' ⟨rfl, rfl⟩
      refine hK.out _ _ (by simpa using d14) (fun hS => ?_)
      clear hK hS
      (repeat (first | (refine wpS_pass _ rfl (by rfl) ?_; simp only [Act.put, List.getElem_toArray, List.getElem_cons_zero, List.getElem_cons_succ, List.setIfInBounds_toArray, List.set_cons_zero, List.set_cons_succ]) | (refine wpS_take _ ?_ rfl (by rfl) ?_ ?_; rotate_left; (focus (intro w' hS'; (try dsimp only at hS'); (repeat (have hS1 := hS'.1; replace hS' := hS'.2)); go_simp; (try with_reducible rfl); done)); simp only [Act.put, List.getElem_toArray, List.getElem_cons_zero, List.getElem_cons_succ, List.setIfInBounds_toArray, List.set_cons_zero, List.set_cons_succ])))
      refine wpS_done ?_
      go_wp2_with fail
      refine wp_region_sched (fun w' => w'.cell? ⟨b, o + (j + 9), none⟩ = some (.int .u32 (x9.toNat : Int)) ∧ w'.cell? ⟨b, o + j, none⟩ = some (.int .u32 (x0.toNat : Int))) ((List.range 16).map (fun i => (true, i)) ++ [(false, 16), (false, 17), (true, 18)]) (by kernel_rfl) (by kernel_rfl) rfl (by kernel_rfl) ⟨by simpa using d9, by simpa using d0⟩ ?_
      simp only [List.range, List.range.loop, List.map, List.cons_append, List.nil_append]
      (repeat (first | (refine wpS_pass _ rfl (by rfl) ?_; simp only [Act.put, List.getElem_toArray, List.getElem_cons_zero, List.getElem_cons_succ, List.setIfInBounds_toArray, List.set_cons_zero, List.set_cons_succ]) | (refine wpS_take _ ?_ rfl (by rfl) ?_ ?_; rotate_left; (focus (intro w' hS'; (try dsimp only at hS'); (repeat (have hS1 := hS'.1; replace hS' := hS'.2)); go_simp; (try with_reducible rfl); done)); simp only [Act.put, List.getElem_toArray, List.getElem_cons_zero, List.getElem_cons_succ, List.setIfInBounds_toArray, List.set_cons_zero, List.set_cons_succ])))
      clear e0 e0' e1 e14 e9 p1 p14 p9 i1 i14 i9 i0 t1 t14 t9
      refine wpS_do _ rfl (by rfl) (fun K hK => ?_)
      go_simp
      have hRa := fun (ob : Obj) => HR9.out.alloc ob
      have hSa := fun (ob : Obj) (k : Nat) (x : W32) (h : wr.cell? ⟨b, o + k, none⟩ = some (.int .u32 (x.toNat : Int))) => ((Below.heap_alloc wr ob b) : b < wr.heap.size → _)
      have hbl := Rd.lt HR9.out (by rw [w32s_length, HLL.out]; omega)
      have hal : ∀ (ob : Obj) (k : Nat), (wr.alloc ob).drew.drew.drew.cell? ⟨b, k, none⟩ = wr.cell? ⟨b, k, none⟩ := fun ob k => World.cell?_of_block (w := wr) (w' := wr.alloc ob) (a := ⟨b, k, none⟩) (Below.heap_alloc wr ob b hbl)
      refine hK.out _ _ ⟨(hal _ _).trans d9, (hal _ _).trans d0⟩ (fun hS => ?_)
      clear hK hS hSa hRa
      refine wpS_do _ rfl (by rfl) (fun K hK => ?_)
      refine wp_append_w2 (wr := wr.drew.drew.drew) _ _ rfl (addW (addW (addW (xorW (xorW (rotr x14 17) (rotr x14 19)) (shrW x14 10)) x9) (xorW (xorW (rotr x1 7) (rotr x1 18)) (shrW x1 3))) x0) rfl rfl rfl hown.drew.drew.drew hlw ?_
      intro v1 w1 hown1 hrk
      rw [← HNX.out] at hown1
      have HLL2 := HLL.out
      have HS2 : w1.cell? ⟨b, o + (j + 9), none⟩ = some (.int .u32 (x9.toNat : Int)) ∧ w1.cell? ⟨b, o + j, none⟩ = some (.int .u32 (x0.toNat : Int)) := by
        have f9 := HR9.out.wordat (j + 9) (by omega)
        have f0 := HR9.out.wordat j (by omega)
        have k9 := hrk.wordat (j + 9) (by omega)
        have k0 := hrk.wordat j (by omega)
        rw [← f9, ← f0] at *
        exact ⟨k9.trans d9, k0.trans d0⟩
      refine hK.out _ _ HS2 (fun hS => ?_)
      clear hK hS HS2 hrk HLL2 d0 d1 d9 d14 hown HR9 hal
      (repeat (first | (refine wpS_pass _ rfl (by rfl) ?_; simp only [Act.put, List.getElem_toArray, List.getElem_cons_zero, List.getElem_cons_succ, List.setIfInBounds_toArray, List.set_cons_zero, List.set_cons_succ]) | (refine wpS_take _ ?_ rfl (by rfl) ?_ ?_; rotate_left; (focus (intro w' hS'; (try dsimp only at hS'); (repeat (have hS1 := hS'.1; replace hS' := hS'.2)); go_simp; (try with_reducible rfl); done)); simp only [Act.put, List.getElem_toArray, List.getElem_cons_zero, List.getElem_cons_succ, List.setIfInBounds_toArray, List.set_cons_zero, List.set_cons_succ])))
      refine wpS_done ?_
      go_wp2_with fail
      go_roundg (48 - (j + 1))
      case measure => omega
      case rel => exact ⟨j + 1, by omega, rfl, by first | rfl | (go_num) | (congr 1; omega), hown1⟩
    · obtain rfl : j = 48 := by omega
      have hown48 : OwnW wo.heap.size wo wr (.slice A9 n9 c9) (sched (P.drop q)) := hown
      go_wp2_with fail
      exact HEX.out _ _ _ _ _ _ _ _ _ _ _ _ _ _ _ _ _ _ _ _ _ _ _ _ _ _ _ _ _ _ _ _ _ _ _ _ _ _ _ _ _ _ _ _ _ _ _ _ _ _ _ _ _ _ _ _ _ _ _ _ _ _ _ _ _ _ _ hown48
end Go.Proofs.Ytkiggfahcakdeaa
