
/- The document's Sum: the rounds. -/

import Derived.Test.YtkiggfahcakdeaaShaRefA

namespace Go.Proofs.Ytkiggfahcakdeaa

set_option linter.unusedVariables false

set_option linter.unusedSimpArgs false

open Go.RowKit

attribute [local go_sem] w_xor w_and w_or w_not w_not' w_add w_addw w_shr3 w_shr10 w_conv8 w_shl24 w_shl16 w_shl8

set_option maxRecDepth 1000000 in
set_option maxHeartbeats 4000000 in
theorem ref_rounds {u0 u1 u3 u4 u5 u6 u7 u8 u10 u11 u12 u13 u14 u24 u25 u26 u27 u28 u29 u30 u31 u32 u33 u34 u35 u36 u37 u38 u39 u40 u41 u42 u43 u44 u45 u46 u47 u48 u49 u50 u51 u52 u53 u54 u55 u56 u57 u58 u59 u60 u61 u62 u63 u64 u65 u66 u67 u68 u69 u70 u71 u72 u73 u74 u75 u76 u77 u78 u79 u80 u81 u82 u83 u84 u85 u86 u87 u88 u89 u90 u91 u92 u93 u94 u95 u96 u97 u98 u99 u100 u101 u102 u103 u104 u105 u106 u107 u108 u109 u110 u111 u112 u113 u114 u115 u116 u117 u118 u119 u120 u121 u122 u123 u124 u125 u126 u127 u128 u129 u130 u131 u132 u133 u134 u135 u136 u137 u138 u139 u140 u141 u142 u143 u144 u145 u146 u147 u148 u149 u150 u151 u152 u153 u154 u155 u156 u157 u158 u159 u160 u161 u162 u163 u164 u165 u166 u167 u168 u169 u170 u171 u172 u173 u174 u175 u176 u177 u178 u179 u180 u181 u182 u183 u184 u185 u186 u187 u188 u189 u190 u191 u192 u193 u194 u195 u196 u197 u198 u199 u200 u201 u202 u203 u204 u205 u206 u207 u208 u209 u210 u211 u212 u213 u214 u215 u216 u217 u218 u219 u220 u221 u222 u223 u224 u225 u226 u227 u228 u229 u230 u231 u232 u233 u234 u235 u236 u237 u238 u239 u240 u241 u242 u243 u244 u245 u246 u247 u248 u249 u250 u251 u252 u253 u254 u255 u256 u257 u258 u259 u260 u261 u262 u263 u264 u265 u266 u267 u268 u269 u270 u271 u272 u273 u274 u275 u276 u277 u278 u279 u280 u281 u282 u283 u284 u285 u286 u287 u288 u289 u290 u291 u292 u293 u294 u295 u296 u297 u298 u299 u300 u301 u302 : Value} (gb : Nat) (A2 A9 : Option Addr) (c2 c9 : Nat) (hc9 : c9 ≤ 9223372036854775807) (hnc9 : 64 ≤ c9) (KT SW : List W32) (HKL : Hid (KT.length = 64)) (HSW : Hid (SW.length = 64)) (st : St8) (wr : World) (HBX : Hid (wr.cell? ⟨gb, 1, none⟩ = some (.slice A2 64 c2))) (H22 : Hid (Rd wr A2 (w32s KT))) (HR48 : Hid (Rd wr A9 (w32s SW))) (Q : Exit → Act → World → Prop)
    (hexit : ∀ (x23 x24 x25 x176 x177 x178 x179 x180 x181 x182 x183 x184 x185 x186 x187 x188 x189 x190 x191 x192 x193 x194 x195 x196 x197 x198 x199 x200 x201 x202 x203 x204 x205 x206 x207 x208 x209 x210 x211 x212 x213 x214 x215 x216 x217 x218 x219 x220 x221 x222 x223 x224 x225 x226 x227 x228 x229 x230 x231 x232 x233 x234 x235 x236 x237 x238 x239 x240 x241 : Value) (s : St8) (wx : World), Hid (rnds KT SW 64 st = s) → Below wr.heap.size wr wx → Q .normal ⟨#[u0, u1, .pointer (some ⟨gb, 0, none⟩), u3, u4, u5, u6, u7, u8, .slice A9 64 c9, u10, u11, u12, u13, u14, .int .u32 (s.a.toNat : Int), .int .u32 (s.b.toNat : Int), .int .u32 (s.c.toNat : Int), .int .u32 (s.d.toNat : Int), .int .u32 (s.e.toNat : Int), .int .u32 (s.f.toNat : Int), .int .u32 (s.g.toNat : Int), .int .u32 (s.h.toNat : Int), x23, x24, x25, u26, u27, u28, u29, u30, u31, u32, u33, u34, u35, u36, u37, u38, u39, u40, u41, u42, u43, u44, u45, u46, u47, u48, u49, u50, u51, u52, u53, u54, u55, u56, u57, u58, u59, u60, u61, u62, u63, u64, u65, u66, u67, u68, u69, u70, u71, u72, u73, u74, u75, u76, u77, u78, u79, u80, u81, u82, u83, u84, u85, u86, u87, u88, u89, u90, u91, u92, u93, u94, u95, u96, u97, u98, u99, u100, u101, u102, u103, u104, u105, u106, u107, u108, u109, u110, u111, u112, u113, u114, u115, u116, u117, u118, u119, u120, u121, u122, u123, u124, u125, u126, u127, u128, u129, u130, u131, u132, u133, u134, u135, u136, u137, u138, u139, u140, u141, u142, u143, u144, u145, u146, u147, u148, u149, u150, u151, u152, u153, u154, u155, u156, u157, u158, u159, u160, u161, u162, u163, u164, u165, u166, u167, u168, u169, u170, u171, u172, u173, u174, u175, x176, x177, x178, x179, x180, x181, x182, x183, x184, x185, x186, x187, x188, x189, x190, x191, x192, x193, x194, x195, x196, x197, x198, x199, x200, x201, x202, x203, x204, x205, x206, x207, x208, x209, x210, x211, x212, x213, x214, x215, x216, x217, x218, x219, x220, x221, x222, x223, x224, x225, x226, x227, x228, x229, x230, x231, x232, x233, x234, x235, x236, x237, x238, x239, x240, x241, u242, u243, u244, u245, u246, u247, u248, u249, u250, u251, u252, u253, u254, u255, u256, u257, u258, u259, u260, u261, u262, u263, u264, u265, u266, u267, u268, u269, u270, u271, u272, u273, u274, u275, u276, u277, u278, u279, u280, u281, u282, u283, u284, u285, u286, u287, u288, u289, u290, u291, u292, u293, u294, u295, u296, u297, u298, u299, u300, u301, u302], []⟩ wx) :
    Code.wp Try.prog (refBlk 8) Q ⟨#[u0, u1, .pointer (some ⟨gb, 0, none⟩), u3, u4, u5, u6, u7, u8, .slice A9 64 c9, u10, u11, u12, u13, u14, .int .u32 (st.a.toNat : Int), .int .u32 (st.b.toNat : Int), .int .u32 (st.c.toNat : Int), .int .u32 (st.d.toNat : Int), .int .u32 (st.e.toNat : Int), .int .u32 (st.f.toNat : Int), .int .u32 (st.g.toNat : Int), .int .u32 (st.h.toNat : Int), .int .i64 0, u24, u25, u26, u27, u28, u29, u30, u31, u32, u33, u34, u35, u36, u37, u38, u39, u40, u41, u42, u43, u44, u45, u46, u47, u48, u49, u50, u51, u52, u53, u54, u55, u56, u57, u58, u59, u60, u61, u62, u63, u64, u65, u66, u67, u68, u69, u70, u71, u72, u73, u74, u75, u76, u77, u78, u79, u80, u81, u82, u83, u84, u85, u86, u87, u88, u89, u90, u91, u92, u93, u94, u95, u96, u97, u98, u99, u100, u101, u102, u103, u104, u105, u106, u107, u108, u109, u110, u111, u112, u113, u114, u115, u116, u117, u118, u119, u120, u121, u122, u123, u124, u125, u126, u127, u128, u129, u130, u131, u132, u133, u134, u135, u136, u137, u138, u139, u140, u141, u142, u143, u144, u145, u146, u147, u148, u149, u150, u151, u152, u153, u154, u155, u156, u157, u158, u159, u160, u161, u162, u163, u164, u165, u166, u167, u168, u169, u170, u171, u172, u173, u174, u175, u176, u177, u178, u179, u180, u181, u182, u183, u184, u185, u186, u187, u188, u189, u190, u191, u192, u193, u194, u195, u196, u197, u198, u199, u200, u201, u202, u203, u204, u205, u206, u207, u208, u209, u210, u211, u212, u213, u214, u215, u216, u217, u218, u219, u220, u221, u222, u223, u224, u225, u226, u227, u228, u229, u230, u231, u232, u233, u234, u235, u236, u237, u238, u239, u240, u241, u242, u243, u244, u245, u246, u247, u248, u249, u250, u251, u252, u253, u254, u255, u256, u257, u258, u259, u260, u261, u262, u263, u264, u265, u266, u267, u268, u269, u270, u271, u272, u273, u274, u275, u276, u277, u278, u279, u280, u281, u282, u283, u284, u285, u286, u287, u288, u289, u290, u291, u292, u293, u294, u295, u296, u297, u298, u299, u300, u301, u302], []⟩ wr := by
  obtain ⟨wb, rfl⟩ : ∃ wb : World, wb = wr := ⟨_, rfl⟩
  have HEX := Lib.hid hexit
  clear hexit
  conv => arg 2; whnf
  go_wp2_with fail
  go_loopg [15, 16, 17, 18, 19, 20, 21, 22, 23] 64 (fun gk_ a b c d e f g h i wx => ∃ (k : Nat) (s : St8), k ≤ 64 ∧ gk_ = 64 - k ∧ i = .int .i64 (k : Int) ∧ a = .int .u32 (s.a.toNat : Int) ∧ b = .int .u32 (s.b.toNat : Int) ∧ c = .int .u32 (s.c.toNat : Int) ∧ d = .int .u32 (s.d.toNat : Int) ∧ e = .int .u32 (s.e.toNat : Int) ∧ f = .int .u32 (s.f.toNat : Int) ∧ g = .int .u32 (s.g.toNat : Int) ∧ h = .int .u32 (s.h.toNat : Int) ∧ Hid (rnds KT SW k st = s) ∧ Below wb.heap.size wb wx)
  case atStart => exact ⟨0, st, by omega, by omega, rfl, rfl, rfl, rfl, rfl, rfl, rfl, rfl, rfl, Lib.hid rfl, Below.refl _ _⟩
  case round =>
    obtain ⟨k, s, hk, rfl, rfl, rfl, rfl, rfl, rfl, rfl, rfl, rfl, rfl, HS, hbel⟩ := hrel
    by_cases hlt3 : k < 64
    · skip
      have b1 : wr.cell? ⟨gb, 1, none⟩ = some (.slice A2 64 c2) := (World.cell?_of_block (w := wb) (w' := wr) (a := ⟨gb, 1, none⟩) (hbel.block gb (World.block_lt_of_cell? wb _ HBX.out))).trans HBX.out
      have r2 := H22.out.below hbel
      have r9 := HR48.out.below hbel
      have hkl := HKL.out
      have hsl := HSW.out
      obtain ⟨bk, ok, hA2, ck⟩ := r2.word k (by omega)
      obtain ⟨bw, ow, hA9, cw⟩ := r9.word k (by omega)
      have hrn := rnds_at KT SW k st (by omega) (by omega)
      rw [HS.out] at hrn
      obtain ⟨kk, hkk⟩ : ∃ x, KT[k]'(by omega) = x := ⟨_, rfl⟩
      obtain ⟨ww, hww⟩ : ∃ x, SW[k]'(by omega) = x := ⟨_, rfl⟩
      rw [hkk] at ck hrn
      rw [hww] at cw hrn
      rw [hA2] at b1
      subst hA9
      have HRN := Lib.hid hrn
      have k64 : (k : Int) < 64 := by omega
      have k9 : (k : Int) < ((64 : Nat) : Int) := by omega
      clear hrn hkk hww hkl hsl r2 r9 hA2
      go_wp2_with fail
      refine wp_region_sched (fun w' => w'.cell? ⟨gb, 1, none⟩ = some (.slice (some ⟨bk, ok, none⟩) 64 c2) ∧ w'.cell? ⟨bk, ok + k, none⟩ = some (.int .u32 (kk.toNat : Int)) ∧ w'.cell? ⟨bw, ow + k, none⟩ = some (.int .u32 (ww.toNat : Int)))
        [(true, 0), (true, 1), (true, 3), (true, 6), (true, 10), (true, 11), (true, 12), (true, 13), (true, 14), (true, 15), (true, 16), (true, 17), (true, 19), (true, 20), (true, 21), (true, 22), (true, 23), (true, 25), (true, 26), (true, 27), (true, 28), (false, 2), (false, 4), (true, 5), (false, 7), (true, 8), (true, 9), (true, 18), (true, 24), (true, 29), (true, 30)] (by kernel_rfl) (by kernel_rfl) rfl (by kernel_rfl) ⟨b1, ck, cw⟩ ?_
      (repeat (first | (refine wpS_pass _ rfl (by rfl) ?_; simp only [Act.put, List.getElem_toArray, List.getElem_cons_zero, List.getElem_cons_succ, List.setIfInBounds_toArray, List.set_cons_zero, List.set_cons_succ]) | (refine wpS_take _ ?_ rfl (by rfl) ?_ ?_; rotate_left; (focus (intro w' hS'; (try dsimp only at hS'); (repeat (have hS1 := hS'.1; replace hS' := hS'.2)); go_simp; (try with_reducible rfl); done)); simp only [Act.put, List.getElem_toArray, List.getElem_cons_zero, List.getElem_cons_succ, List.setIfInBounds_toArray, List.set_cons_zero, List.set_cons_succ])))
      refine wpS_do _ rfl (by rfl) (fun K hK => ?_)
      go_simp
      refine (right_any s.e 6 (by decide) (by decide) _).mono ?_
      rintro e w' ⟨rfl, rfl⟩
      refine hK.out _ _ ⟨b1, ck, cw⟩ (fun hS => ?_)
      clear hK hS
      refine wpS_do _ rfl (by rfl) (fun K hK => ?_)
      go_simp
      refine (right_any s.e 11 (by decide) (by decide) _).mono ?_
      rintro e w' ⟨rfl, rfl⟩
      refine hK.out _ _ ⟨b1, ck, cw⟩ (fun hS => ?_)
      clear hK hS
      (repeat (first | (refine wpS_pass _ rfl (by rfl) ?_; simp only [Act.put, List.getElem_toArray, List.getElem_cons_zero, List.getElem_cons_succ, List.setIfInBounds_toArray, List.set_cons_zero, List.set_cons_succ]) | (refine wpS_take _ ?_ rfl (by rfl) ?_ ?_; rotate_left; (focus (intro w' hS'; (try dsimp only at hS'); (repeat (have hS1 := hS'.1; replace hS' := hS'.2)); go_simp; (try with_reducible rfl); done)); simp only [Act.put, List.getElem_toArray, List.getElem_cons_zero, List.getElem_cons_succ, List.setIfInBounds_toArray, List.set_cons_zero, List.set_cons_succ])))
      refine wpS_do _ rfl (by rfl) (fun K hK => ?_)
      go_simp
      refine (right_any s.e 25 (by decide) (by decide) _).mono ?_
      rintro e w' ⟨rfl, rfl⟩
      refine hK.out _ _ ⟨b1, ck, cw⟩ (fun hS => ?_)
      clear hK hS
      (repeat (first | (refine wpS_pass _ rfl (by rfl) ?_; simp only [Act.put, List.getElem_toArray, List.getElem_cons_zero, List.getElem_cons_succ, List.setIfInBounds_toArray, List.set_cons_zero, List.set_cons_succ]) | (refine wpS_take _ ?_ rfl (by rfl) ?_ ?_; rotate_left; (focus (intro w' hS'; (try dsimp only at hS'); (repeat (have hS1 := hS'.1; replace hS' := hS'.2)); go_simp; (try with_reducible rfl); done)); simp only [Act.put, List.getElem_toArray, List.getElem_cons_zero, List.getElem_cons_succ, List.setIfInBounds_toArray, List.set_cons_zero, List.set_cons_succ])))
      refine wpS_done ?_
      clear b1 ck cw
      go_wp2_with fail
      refine (right_any s.a 2 (by decide) (by decide) _).mono ?_
      rintro e w' ⟨rfl, rfl⟩
      go_wp2_with fail
      refine (right_any s.a 13 (by decide) (by decide) _).mono ?_
      rintro e w' ⟨rfl, rfl⟩
      go_wp2_with fail
      refine (right_any s.a 22 (by decide) (by decide) _).mono ?_
      rintro e w' ⟨rfl, rfl⟩
      go_wp2_with fail
      have hT1 : addW (addW (addW (addW s.h (xorW (xorW (rotr s.e 6) (rotr s.e 11)) (rotr s.e 25))) (xorW (andW s.e s.f) (andW (notW s.e) s.g))) kk) ww = tm1 s kk ww := rfl
      have hT2 : addW (xorW (xorW (rotr s.a 2) (rotr s.a 13)) (rotr s.a 22)) (xorW (xorW (andW s.a s.b) (andW s.a s.c)) (andW s.b s.c)) = tm2 s := rfl
      rw [hT1, hT2]
      clear hT1 hT2
      go_roundg (64 - (k + 1))
      case measure => omega
      case rel => exact ⟨k + 1, rnd s kk ww, by omega, rfl, by go_num, rfl, rfl, rfl, rfl, rfl, rfl, rfl, rfl, HRN, hbel.drew⟩
    · obtain rfl : k = 64 := by omega
      go_wp2_with fail
      exact HEX.out _ _ _ _ _ _ _ _ _ _ _ _ _ _ _ _ _ _ _ _ _ _ _ _ _ _ _ _ _ _ _ _ _ _ _ _ _ _ _ _ _ _ _ _ _ _ _ _ _ _ _ _ _ _ _ _ _ _ _ _ _ _ _ _ _ _ _ _ _ s _ HS hbel
end Go.Proofs.Ytkiggfahcakdeaa
