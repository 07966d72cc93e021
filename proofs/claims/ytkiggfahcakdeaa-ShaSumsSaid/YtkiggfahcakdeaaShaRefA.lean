
/- What the document's Sum makes: words. -/

import Derived.Test.YtkiggfahcakdeaaShaRef

import Derived.Test.YtkiggfahcakdeaaAppend

namespace Go.Proofs.Ytkiggfahcakdeaa

set_option linter.unusedVariables false

set_option linter.unusedSimpArgs false

open Go.RowKit

section

variable {w0 wr : World}

theorem wp_append_w {o : Oper} {a : Act} {K : Act → World → Prop} {Q : Exit → Act → World → Prop} (s x : Operand)
    (ho : o.op = .call { callee := .builtin .append, args := #[s, x], argTypes := #[37, 37] }) (hty : o.type = 37) {N : Nat} {v u : Value} {zs : List W32} (y : W32) (hs : a.eval s = v)
    (hx : a.eval x = .slice (some ⟨wr.heap.size, 0, none⟩) 1 1) (hu : u = .int .u32 (y.toNat : Int)) (hown : OwnW N w0 wr v zs) (hlen : zs.length + 1 ≤ 1099511627776)
    (h : ∀ v' w', OwnW N w0 w' v' (zs ++ [y]) → K (a.put o.dst v') w') : o.wp Try.prog a (wr.alloc (.cells #[u] 66)) K Q := by
  subst hu
  refine wp_append_rd _ s x 37 ho N 66 (.int .u32 0) 1 4 Try.underlying37 info_u32 rfl (by decide) v zs.length (w32s zs) hs (hown.own.alloc _) _ 1 1 (w32s [y]) hx rfl (Rd.new _ _ _) (w32s_one _)
    (by unfold maxLen; omega) (by omega) (Nat.le_trans hown.sz (by simp)) ?_
  intro v' w' h1 h2 _
  refine h v' w' ⟨by rw [List.length_append, w32s_append]; exact h1, ?_, ?_⟩
  · exact below_grown_own (hown.bel.alloc hown.sz _) (hown.own.alloc _) h2 (Nat.le_trans hown.sz (by simp))
  · have := h2.size
    have := hown.sz
    simp at *
    omega
end

theorem wp_append_w2 {w0 wr : World} {o : Oper} {a : Act} {K : Act → World → Prop} {Q : Exit → Act → World → Prop} (s x : Operand)
    (ho : o.op = .call { callee := .builtin .append, args := #[s, x], argTypes := #[37, 37] }) {N : Nat} {A0 : Option Addr} {n0 c0 : Nat} {u : Value} {zs : List W32} (y : W32) (hs : a.eval s = .slice A0 n0 c0)
    (hx : a.eval x = .slice (some ⟨wr.heap.size, 0, none⟩) 1 1) (hu : u = .int .u32 (y.toNat : Int)) (hown : OwnW N w0 wr (.slice A0 n0 c0) zs) (hlen : zs.length + 1 ≤ 1099511627776)
    (h : ∀ v' w', OwnW N w0 w' v' (zs ++ [y]) → Rd w' A0 (w32s zs) → K (a.put o.dst v') w') : o.wp Try.prog a (wr.alloc (.cells #[u] 66)) K Q := by
  subst hu
  refine wp_append_kept s x 37 ho N 66 (.int .u32 0) 1 4 Try.underlying37 info_u32 rfl (by decide) A0 n0 c0 zs.length (w32s zs) hs (hown.own.alloc _) _ 1 1 (w32s [y]) hx rfl (Rd.new _ _ _) (w32s_one _)
    (by unfold maxLen; omega) (by omega) (Nat.le_trans hown.sz (by simp)) ?_
  intro v' w' h1 h2 h3
  refine h v' w' ⟨by rw [List.length_append, w32s_append]; exact h1, ?_, ?_⟩ h3
  · exact below_grown_own (hown.bel.alloc hown.sz _) (hown.own.alloc _) h2 (Nat.le_trans hown.sz (by simp))
  · have := h2.size
    have := hown.sz
    simp at *
    omega
attribute [local go_sem] w_xor w_and w_or w_not w_not' w_add w_addw w_shr3 w_shr10 w_conv8 w_shl24 w_shl16 w_shl8

theorem right7 (x : W32) (w : World) : Calls Try.prog 39 #[.int .u32 (x.toNat : Int), .int .u64 7] w fun e w' => w = w' ∧ e = .returned (.int .u32 ((rotr x 7).toNat : Int)) := right_any x 7 (by decide) (by decide) w

/-- the block of a code that has a number -/
def findBlk (n : Nat) : Code → Option Code
  | .block k c => if k = n then some (.block k c) else findBlk n c
  | .loop c => findBlk n c
  | .scope c => findBlk n c
  | .seq a b => match findBlk n a with
    | some c => some c
    | none => findBlk n b
  | .cond _ a b => match findBlk n a with
    | some c => some c
    | none => findBlk n b
  | _ => none
noncomputable def refBlk (n : Nat) : Code := ((Try.f20.body.bind (findBlk n)).getD .skip)

set_option maxRecDepth 1000000 in
set_option maxHeartbeats 4000000 in
theorem ref_words {u0 u1 u2 u3 u4 u6 u7 u11 u12 u13 u14 u15 u16 u17 u18 u19 u20 u21 u22 u23 u24 u25 u26 u27 u28 u29 u30 u31 u32 u33 u34 u35 u36 u37 u38 u39 u40 u41 u42 u43 u44 u45 u46 u47 u48 u49 u50 u51 u52 u53 u54 u55 u56 u57 u58 u59 u60 u61 u62 u63 u64 u65 u66 u67 u68 u69 u70 u71 u72 u73 u74 u75 u76 u77 u78 u79 u80 u81 u82 u83 u84 u85 u86 u87 u88 u89 u90 u91 u92 u93 u94 u95 u96 u97 u98 u99 u100 u101 u102 u103 u104 u105 u106 u107 u108 u109 u110 u111 u112 u113 u114 u115 u116 u117 u118 u119 u120 u121 u122 u123 u124 u125 u126 u127 u128 u129 u130 u131 u132 u133 u134 u135 u136 u137 u138 u139 u140 u141 u142 u143 u144 u145 u146 u147 u148 u149 u150 u151 u152 u153 u154 u155 u156 u157 u158 u159 u160 u161 u162 u163 u164 u165 u166 u167 u168 u169 u170 u171 u172 u173 u174 u175 u176 u177 u178 u179 u180 u181 u182 u183 u184 u185 u186 u187 u188 u189 u190 u191 u192 u193 u194 u195 u196 u197 u198 u199 u200 u201 u202 u203 u204 u205 u206 u207 u208 u209 u210 u211 u212 u213 u214 u215 u216 u217 u218 u219 u220 u221 u222 u223 u224 u225 u226 u227 u228 u229 u230 u231 u232 u233 u234 u235 u236 u237 u238 u239 u240 u241 u242 u243 u244 u245 u246 u247 u248 u249 u250 u251 u252 u253 u254 u255 u256 u257 u258 u259 u260 u261 u262 u263 u264 u265 u266 u267 u268 u269 u270 u271 u272 u273 u274 u275 u276 u277 u278 u279 u280 u281 u282 u283 u284 u285 u286 u287 u288 u289 u290 u291 u292 u293 u294 u295 u296 u297 u298 u299 u300 u301 u302 : Value} (AP : Option Addr) (nP cP q m : Nat) (P : List UInt8) (HnP : Hid (nP = P.length)) (HQ : Hid (q = 64 * m)) (hq : q ≤ 1099511627976) (hqn : q + 64 ≤ nP) (hncP : nP ≤ cP) (hcP : cP ≤ 9223372036854775807) (wo wr : World) (HRP0 : Hid (Rd wo AP (b8s P))) (v9 : Value) (hst9 : OwnW wo.heap.size wo wr v9 []) (Q : Exit → Act → World → Prop)
    (hexit : ∀ (x9 x10 x11 x50 x51 x52 x53 x54 x55 x56 x57 x58 x59 x60 x61 x62 x63 x64 x65 x66 x67 x68 x69 x70 x71 x72 x73 x74 x75 x76 x77 x78 x79 x80 x81 x82 x83 x84 x85 x86 x87 x88 x89 : Value) (wx : World), OwnW wo.heap.size wo wx x9 (words (P.drop q)) → Q .normal ⟨#[u0, u1, u2, u3, u4, .slice AP nP cP, u6, u7, .int .i64 (q : Int), x9, x10, x11, u12, u13, u14, u15, u16, u17, u18, u19, u20, u21, u22, u23, u24, u25, u26, u27, u28, u29, u30, u31, u32, u33, u34, u35, u36, u37, u38, u39, u40, u41, u42, u43, u44, u45, u46, u47, u48, u49, x50, x51, x52, x53, x54, x55, x56, x57, x58, x59, x60, x61, x62, x63, x64, x65, x66, x67, x68, x69, x70, x71, x72, x73, x74, x75, x76, x77, x78, x79, x80, x81, x82, x83, x84, x85, x86, x87, x88, x89, u90, u91, u92, u93, u94, u95, u96, u97, u98, u99, u100, u101, u102, u103, u104, u105, u106, u107, u108, u109, u110, u111, u112, u113, u114, u115, u116, u117, u118, u119, u120, u121, u122, u123, u124, u125, u126, u127, u128, u129, u130, u131, u132, u133, u134, u135, u136, u137, u138, u139, u140, u141, u142, u143, u144, u145, u146, u147, u148, u149, u150, u151, u152, u153, u154, u155, u156, u157, u158, u159, u160, u161, u162, u163, u164, u165, u166, u167, u168, u169, u170, u171, u172, u173, u174, u175, u176, u177, u178, u179, u180, u181, u182, u183, u184, u185, u186, u187, u188, u189, u190, u191, u192, u193, u194, u195, u196, u197, u198, u199, u200, u201, u202, u203, u204, u205, u206, u207, u208, u209, u210, u211, u212, u213, u214, u215, u216, u217, u218, u219, u220, u221, u222, u223, u224, u225, u226, u227, u228, u229, u230, u231, u232, u233, u234, u235, u236, u237, u238, u239, u240, u241, u242, u243, u244, u245, u246, u247, u248, u249, u250, u251, u252, u253, u254, u255, u256, u257, u258, u259, u260, u261, u262, u263, u264, u265, u266, u267, u268, u269, u270, u271, u272, u273, u274, u275, u276, u277, u278, u279, u280, u281, u282, u283, u284, u285, u286, u287, u288, u289, u290, u291, u292, u293, u294, u295, u296, u297, u298, u299, u300, u301, u302], []⟩ wx) :
    Code.wp Try.prog (refBlk 4) Q ⟨#[u0, u1, u2, u3, u4, .slice AP nP cP, u6, u7, .int .i64 (q : Int), v9, .int .i64 0, u11, u12, u13, u14, u15, u16, u17, u18, u19, u20, u21, u22, u23, u24, u25, u26, u27, u28, u29, u30, u31, u32, u33, u34, u35, u36, u37, u38, u39, u40, u41, u42, u43, u44, u45, u46, u47, u48, u49, u50, u51, u52, u53, u54, u55, u56, u57, u58, u59, u60, u61, u62, u63, u64, u65, u66, u67, u68, u69, u70, u71, u72, u73, u74, u75, u76, u77, u78, u79, u80, u81, u82, u83, u84, u85, u86, u87, u88, u89, u90, u91, u92, u93, u94, u95, u96, u97, u98, u99, u100, u101, u102, u103, u104, u105, u106, u107, u108, u109, u110, u111, u112, u113, u114, u115, u116, u117, u118, u119, u120, u121, u122, u123, u124, u125, u126, u127, u128, u129, u130, u131, u132, u133, u134, u135, u136, u137, u138, u139, u140, u141, u142, u143, u144, u145, u146, u147, u148, u149, u150, u151, u152, u153, u154, u155, u156, u157, u158, u159, u160, u161, u162, u163, u164, u165, u166, u167, u168, u169, u170, u171, u172, u173, u174, u175, u176, u177, u178, u179, u180, u181, u182, u183, u184, u185, u186, u187, u188, u189, u190, u191, u192, u193, u194, u195, u196, u197, u198, u199, u200, u201, u202, u203, u204, u205, u206, u207, u208, u209, u210, u211, u212, u213, u214, u215, u216, u217, u218, u219, u220, u221, u222, u223, u224, u225, u226, u227, u228, u229, u230, u231, u232, u233, u234, u235, u236, u237, u238, u239, u240, u241, u242, u243, u244, u245, u246, u247, u248, u249, u250, u251, u252, u253, u254, u255, u256, u257, u258, u259, u260, u261, u262, u263, u264, u265, u266, u267, u268, u269, u270, u271, u272, u273, u274, u275, u276, u277, u278, u279, u280, u281, u282, u283, u284, u285, u286, u287, u288, u289, u290, u291, u292, u293, u294, u295, u296, u297, u298, u299, u300, u301, u302], []⟩ wr := by
  have hql : q < nP := by omega
  have HEX := Lib.hid hexit
  clear hexit
  conv => arg 2; whnf
  go_wp2_with fail
  go_loopg [9, 10] 16 (fun gk_ v i wx => ∃ (k : Nat), k ≤ 16 ∧ gk_ = 16 - k ∧ i = .int .i64 (k : Int) ∧ OwnW wo.heap.size wo wx v ((words (P.drop q)).take k))
  case atStart => exact ⟨0, by omega, by omega, rfl, hst9⟩
  case round =>
    clear hst9
    obtain ⟨k, hk, rfl, rfl, hown⟩ := hrel
    obtain ⟨A9, n9, c9, rfl, hn9, hnc9, hc9, hr9⟩ := hown.slice
    have hn9' : n9 = k := by rw [hn9, List.length_take, words_len]; omega
    obtain rfl := hn9'
    unfold maxLen at hc9
    have HN9 := Lib.hid hn9
    have HR9 := Lib.hid hr9
    clear hn9 hr9
    by_cases hlt2 : n9 < 16
    · skip
      have hPx := HRP0.out.below hown.bel
      have hqP : q + 4 * n9 + 3 < P.length := by have := HnP.out; omega
      obtain ⟨b, o, rfl, d0⟩ := hPx.byte (q + 4 * n9) (by omega)
      have d1 := hPx.cellat (q + 4 * n9 + 1) (by omega)
      have d2 := hPx.cellat (q + 4 * n9 + 2) (by omega)
      have d3 := hPx.cellat (q + 4 * n9 + 3) (by omega)
      have hwt := words_at P m n9 hlt2 (by have := HQ.out; have := HnP.out; omega)
      have HWT : Hid ((words (P.drop q)).take (n9 + 1) = (words (P.drop q)).take n9 ++ [addW (addW (addW (shlW (wd (P[q + 4 * n9]'(by omega))) 24) (shlW (wd (P[q + 4 * n9 + 1]'(by omega))) 16)) (shlW (wd (P[q + 4 * n9 + 2]'(by omega))) 8)) (wd (P[q + 4 * n9 + 3]'(by omega)))]) := Lib.hid (by
        have := HQ.out
        subst this
        exact hwt)
      have HPX := Lib.hid hPx
      clear hwt hPx
      obtain ⟨x0, hx0⟩ : ∃ x, P[q + 4 * n9]'(by omega) = x := ⟨_, rfl⟩
      obtain ⟨x1, hx1⟩ : ∃ x, P[q + 4 * n9 + 1]'(by omega) = x := ⟨_, rfl⟩
      obtain ⟨x2, hx2⟩ : ∃ x, P[q + 4 * n9 + 2]'(by omega) = x := ⟨_, rfl⟩
      obtain ⟨x3, hx3⟩ : ∃ x, P[q + 4 * n9 + 3]'(by omega) = x := ⟨_, rfl⟩
      rw [hx0] at d0 HWT
      rw [hx1] at d1 HWT
      rw [hx2] at d2 HWT
      rw [hx3] at d3 HWT
      have HS4 : Hid (∀ w', Rd w' (some ⟨b, o, none⟩) (b8s P) → w'.cell? ⟨b, o + (q + 4 * n9), none⟩ = some (.int .u8 (x0.toNat : Int)) ∧ w'.cell? ⟨b, o + (q + 4 * n9 + 1), none⟩ = some (.int .u8 (x1.toNat : Int)) ∧ w'.cell? ⟨b, o + (q + 4 * n9 + 2), none⟩ = some (.int .u8 (x2.toNat : Int)) ∧ w'.cell? ⟨b, o + (q + 4 * n9 + 3), none⟩ = some (.int .u8 (x3.toNat : Int))) := Lib.hid (fun w' h => by
        rw [← hx0, ← hx1, ← hx2, ← hx3]
        exact ⟨h.cellat _ _, h.cellat _ _, h.cellat _ _, h.cellat _ _⟩)
      clear hx0 hx1 hx2 hx3
      have e0 : IntKind.i64.wrap (4 * (n9 : Int)) = 4 * (n9 : Int) := wrap64_in _ (by omega) (by omega)
      have e00 : IntKind.i64.wrap ((q : Int) + 4 * (n9 : Int)) = (q : Int) + 4 * (n9 : Int) := wrap64_in _ (by omega) (by omega)
      have e1 : IntKind.i64.wrap ((q : Int) + 4 * (n9 : Int) + 1) = (q : Int) + 4 * (n9 : Int) + 1 := wrap64_in _ (by omega) (by omega)
      have e2 : IntKind.i64.wrap ((q : Int) + 4 * (n9 : Int) + 2) = (q : Int) + 4 * (n9 : Int) + 2 := wrap64_in _ (by omega) (by omega)
      have e3 : IntKind.i64.wrap ((q : Int) + 4 * (n9 : Int) + 3) = (q : Int) + 4 * (n9 : Int) + 3 := wrap64_in _ (by omega) (by omega)
      have i0 : (q : Int) + (4 * (n9 : Int)) < (nP : Int) := by omega
      have i1 : (q : Int) + (4 * (n9 : Int)) + 1 < (nP : Int) := by omega
      have i2 : (q : Int) + (4 * (n9 : Int)) + 2 < (nP : Int) := by omega
      have i3 : (q : Int) + (4 * (n9 : Int)) + 3 < (nP : Int) := by omega
      have p0 : (0 : Int) ≤ (q : Int) + 4 * (n9 : Int) := by omega
      have p1 : (0 : Int) ≤ (q : Int) + 4 * (n9 : Int) + 1 := by omega
      have p2 : (0 : Int) ≤ (q : Int) + 4 * (n9 : Int) + 2 := by omega
      have p3 : (0 : Int) ≤ (q : Int) + 4 * (n9 : Int) + 3 := by omega
      have t0 : ((q : Int) + 4 * (n9 : Int)).toNat = q + 4 * n9 := by omega
      have t1 : ((q : Int) + 4 * (n9 : Int) + 1).toNat = q + 4 * n9 + 1 := by omega
      have t2 : ((q : Int) + 4 * (n9 : Int) + 2).toNat = q + 4 * n9 + 2 := by omega
      have t3 : ((q : Int) + 4 * (n9 : Int) + 3).toNat = q + 4 * n9 + 3 := by omega
      have hlw : ((words (P.drop q)).take n9).length + 1 ≤ 1099511627776 := by rw [List.length_take]; omega
      go_wp2_with fail
      refine wp_region_sched (fun w' => w'.cell? ⟨b, o + (q + 4 * n9), none⟩ = some (.int .u8 (x0.toNat : Int)) ∧ w'.cell? ⟨b, o + (q + 4 * n9 + 1), none⟩ = some (.int .u8 (x1.toNat : Int)) ∧ w'.cell? ⟨b, o + (q + 4 * n9 + 2), none⟩ = some (.int .u8 (x2.toNat : Int)) ∧ w'.cell? ⟨b, o + (q + 4 * n9 + 3), none⟩ = some (.int .u8 (x3.toNat : Int)))
        ((List.range 30).map (fun i => (true, i)) ++ [(false, 30), (false, 31), (true, 32)]) (by kernel_rfl) (by kernel_rfl) rfl (by kernel_rfl) ⟨by simpa using d0, by simpa using d1, by simpa using d2, by simpa using d3⟩ ?_
      simp only [List.range, List.range.loop, List.map, List.cons_append, List.nil_append]
      (repeat (first | (refine wpS_pass _ rfl (by rfl) ?_; simp only [Act.put, List.getElem_toArray, List.getElem_cons_zero, List.getElem_cons_succ, List.setIfInBounds_toArray, List.set_cons_zero, List.set_cons_succ]) | (refine wpS_take _ ?_ rfl (by rfl) ?_ ?_; rotate_left; (focus (intro w' hS'; (try dsimp only at hS'); (repeat (have hS1 := hS'.1; replace hS' := hS'.2)); go_simp; (try with_reducible rfl); done)); simp only [Act.put, List.getElem_toArray, List.getElem_cons_zero, List.getElem_cons_succ, List.setIfInBounds_toArray, List.set_cons_zero, List.set_cons_succ])))
      clear e0 e00 e1 e2 e3 i0 i1 i2 i3 p0 p1 p2 p3 t0 t1 t2 t3
      clear d0 d1 d2 d3
      refine wpS_do _ rfl (by rfl) (fun K hK => ?_)
      go_simp
      refine hK.out _ _ (HS4.out _ (HPX.out.alloc _)) (fun hS => ?_)
      clear hK hS
      refine wpS_do _ rfl (by rfl) (fun K hK => ?_)
      refine wp_append_w (wr := wr.drew) _ _ rfl rfl (addW (addW (addW (shlW (wd x0) 24) (shlW (wd x1) 16)) (shlW (wd x2) 8)) (wd x3)) rfl rfl rfl hown.drew hlw ?_
      intro v1 w1 hown1
      rw [← HWT.out] at hown1
      refine hK.out _ _ (HS4.out _ (HRP0.out.below hown1.bel)) (fun hS => ?_)
      clear hK hS HS4 HPX hown HR9
      (repeat (first | (refine wpS_pass _ rfl (by rfl) ?_; simp only [Act.put, List.getElem_toArray, List.getElem_cons_zero, List.getElem_cons_succ, List.setIfInBounds_toArray, List.set_cons_zero, List.set_cons_succ]) | (refine wpS_take _ ?_ rfl (by rfl) ?_ ?_; rotate_left; (focus (intro w' hS'; (try dsimp only at hS'); (repeat (have hS1 := hS'.1; replace hS' := hS'.2)); go_simp; (try with_reducible rfl); done)); simp only [Act.put, List.getElem_toArray, List.getElem_cons_zero, List.getElem_cons_succ, List.setIfInBounds_toArray, List.set_cons_zero, List.set_cons_succ])))
      refine wpS_done ?_
      go_wp2_with fail
      go_roundg (16 - (n9 + 1))
      case measure => omega
      case rel => exact ⟨n9 + 1, by omega, rfl, by go_num, hown1⟩
    · obtain rfl : n9 = 16 := by omega
      rw [List.take_of_length_le (by rw [words_len]; omega)] at hown HR9
      go_wp2_with fail
      exact HEX.out _ _ _ _ _ _ _ _ _ _ _ _ _ _ _ _ _ _ _ _ _ _ _ _ _ _ _ _ _ _ _ _ _ _ _ _ _ _ _ _ _ _ _ _ hown
end Go.Proofs.Ytkiggfahcakdeaa
