
/- The document's Back. (Printed by wip/genLn29.py.) -/

import Derived.Test.YtmniggjadfdheaaDoorLn28

import Derived.Test.YtmniggjadfdheaaDoorLn18

namespace Go.Proofs.YtmniggjadfdheaaDoor

set_option linter.unusedVariables false

set_option linter.unusedSimpArgs false

set_option linter.unusedSectionVars false

open Go.RowKit

/-- the block of a code that has a number -/
def findBlk (n : Nat) : Code → Option Code
  | .block k c => if k = n then some (.block k c) else findBlk n c
  | .loop c => findBlk n c
  | .scope c => findBlk n c
  | .seq a b => match findBlk n a with
    | some c => some c
    | none => findBlk n b
  | .cond _ a b => match findBlk n a with
    | some c => some c
    | none => findBlk n b
  | _ => none
noncomputable def bkBlk (n : Nat) : Code := ((Tryd.f22.body.bind (findBlk n)).getD .skip)
/-- what the runs' turned edits are behind some passes -/
def accB (R : List EdM) : Nat → List EdM
  | 0 => pickE 2 R ++ pickE 1 R
  | 1 => pickE 2 R
  | _ => []

set_option maxRecDepth 1000000 in
set_option maxHeartbeats 8000000 in
theorem bk_inner {u1 u2 u4 u8 u9 u10 u11 u12 u13 u14 u15 u16 u17 u18 u19 u20 u21 u22 u23 u24 u25 u26 u27 u28 u29 u30 u31 u32 u33 u34 u35 u36 u37 u38 u39 u40 u41 u42 u43 u44 u45 u46 u47 u48 u49 u50 u51 u52 u53 u54 u55 u56 u57 u58 u59 u60 u61 u62 u63 u64 u65 u66 u67 u68 u69 u70 u71 u72 u73 u74 u75 u76 u77 u78 u79 u80 u81 u82 u83 u84 u85 u86 u87 u88 : Value} (b off n c : Nat) (s : List EdM) (HN : Hid (s.length = n)) (hnm : n ≤ 1000000) (w0 : World) (HR : Hid (Rd w0 (some ⟨b, off, none⟩) (edc s))) (A3 : Option Addr) (n3 c3 i k : Nat) (wz : Int) (hw1 : 1 ≤ wz) (hw2 : wz ≤ 2) (o0 : List EdM) (hik : i ≤ k) (hkn : k ≤ n) (hn3 : n3 ≤ 5000000) (wr : World) (HO3 : Hid (wr.ownsRow w0.heap.size 58 2 (.slice A3 n3 c3) n3 (edc (o0)))) (HB3 : Hid (Below w0.heap.size w0 wr)) (Q : Exit → Act → World → Prop)
    (hexit : ∀ (x7 x64 x65 x66 x67 x68 x69 x70 x71 x72 x73 x74 x75 x76 x77 x78 x79 x80 x81 x82 x83 x84 x85 x86 : Value) (Ao : Option Addr) (no co : Nat) (wx : World), no ≤ n3 + (k - i) → Hid (wx.ownsRow w0.heap.size 58 2 (.slice Ao no co) no (edc (o0 ++ pickE wz (segE s i k)))) → Hid (Below w0.heap.size w0 wx) → Q .normal ⟨#[.slice (some ⟨b, off, none⟩) n c, u1, u2, .slice Ao no co, u4, .int .i64 (k : Int), .int .i64 wz, x7, u8, u9, u10, u11, u12, u13, u14, u15, u16, u17, u18, u19, u20, u21, u22, u23, u24, u25, u26, u27, u28, u29, u30, u31, u32, u33, u34, u35, u36, u37, u38, u39, u40, u41, u42, u43, u44, u45, u46, u47, u48, u49, u50, u51, u52, u53, u54, u55, u56, u57, u58, u59, u60, u61, u62, u63, x64, x65, x66, x67, x68, x69, x70, x71, x72, x73, x74, x75, x76, x77, x78, x79, x80, x81, x82, x83, x84, x85, x86, u87, u88], []⟩ wx) :
    Code.wp Tryd.prog (bkBlk 6) Q ⟨#[.slice (some ⟨b, off, none⟩) n c, u1, u2, .slice A3 n3 c3, u4, .int .i64 (k : Int), .int .i64 wz, .int .i64 (i : Int), u8, u9, u10, u11, u12, u13, u14, u15, u16, u17, u18, u19, u20, u21, u22, u23, u24, u25, u26, u27, u28, u29, u30, u31, u32, u33, u34, u35, u36, u37, u38, u39, u40, u41, u42, u43, u44, u45, u46, u47, u48, u49, u50, u51, u52, u53, u54, u55, u56, u57, u58, u59, u60, u61, u62, u63, u64, u65, u66, u67, u68, u69, u70, u71, u72, u73, u74, u75, u76, u77, u78, u79, u80, u81, u82, u83, u84, u85, u86, u87, u88], []⟩ wr := by
  have HEX := Lib.hid hexit
  clear hexit
  conv => arg 2; whnf
  go_wp2_with fail
  go_loopg [3, 7] ((k - i) * 1) (fun gk_ so jv wr => ∃ (j no : Nat) (Ao : Option Addr) (co : Nat), i ≤ j ∧ j ≤ k ∧ gk_ = k - j ∧ no ≤ n3 + (j - i) ∧ so = .slice Ao no co ∧ jv = .int .i64 (j : Int) ∧ Hid (wr.ownsRow w0.heap.size 58 2 (.slice Ao no co) no (edc (o0 ++ pickE wz (segE s i j)))) ∧ Hid (Below w0.heap.size w0 wr))
  case atStart => exact ⟨i, n3, _, _, by omega, by omega, by omega, by omega, rfl, rfl, Lib.hid (by rw [segE_self, show pickE wz [] = [] from rfl, List.append_nil]; exact HO3.out), HB3⟩
  case round =>
  clear HO3 HB3
  obtain ⟨j, no, Ao, co, hij, hjk, rfl, hno, rfl, rfl, HO, HBW⟩ := hrel
  by_cases hlt : j < k
  · have i1 : (j : Int) < (k : Int) := by omega
    have i2 : (j : Int) < (n : Int) := by omega
    have hlt' : j < s.length := by rw [HN.out]; exact (by omega)
    have hrd := HR.out.below HBW.out
    have RS := rd_ed hrd j hlt'
    obtain ⟨⟨kd, ln_⟩, he⟩ : ∃ e, s[j] = e := ⟨_, rfl⟩
    rw [he] at RS
    have HE : Hid (s[j]? = some (⟨kd, ln_⟩ : EdM)) := Lib.hid (by rw [List.getElem?_eq_getElem hlt', he])
    have a0 : wr.cell? ⟨b, off + j * 2, none⟩ = some (.int .i64 kd) := RS 0 _ rfl
    have a1 : wr.cell? ⟨b, off + j * 2 + 1, none⟩ = some (.string ln_) := RS 1 _ rfl
    have HSG : Hid (segE s i (j + 1) = segE s i j ++ [⟨kd, ln_⟩]) := Lib.hid (segE_succ HE.out hij)
    clear hrd RS he hlt'
    have hw3 : IntKind.i64.wrap (3 - wz) = 3 - wz := by rw [IntKind.wrap_i64]; omega
    by_cases hk_ : kd = wz
    · have z1 : (kd == wz) = true := by rw [beq_iff_eq]; exact hk_
      have HPK : Hid (pickE wz (segE s i (j + 1)) = pickE wz (segE s i j) ++ [⟨3 - wz, ln_⟩]) := Lib.hid (by rw [HSG.out, pickE_app, pickE_hit hk_])
      clear hk_
      obtain ⟨W6, hW6⟩ : ∃ W, wr.alloc (.cells #[.int .i64 (3 - wz), .string ln_] 58) = W := ⟨_, rfl⟩
      obtain ⟨r6, b6, s6⟩ := new_row hW6
      have HO6 := Lib.hid (own_below HO.out b6)
      have HR6 : Hid (Rd W6 (some ⟨wr.heap.size, 0, none⟩) [.int .i64 (3 - wz), .string ln_]) := Lib.hid (range_rd (range_of_row (cs := [.int .i64 (3 - wz), .string ln_]) r6))
      have HBX := Lib.hid (ext_trans HBW.out b6)
      have HBA := Lib.hid HBX.out.size
      have HBE := Lib.hid (red_built (3 - wz) ln_)
      clear r6 b6 s6
      go_wp2_with (first
        | ((with_reducible (refine wpList_built ?_ _ #[(0, .tmp 78), (1, .tmp 83)] ?_ _ ?_ _ HBE.out ?_)); (exact rfl); (exact rfl); (exact rfl))
        | (at_builtin; refine wpList_append_rd _ rfl _ _ 33 rfl w0.heap.size 58 _ 2 24 Tryd.underlying33 info_red2 rfl (by decide) (.slice Ao no co) no _ rfl HO6.out _ 1 1 [.int .i64 (3 - wz), .string ln_] rfl rfl HR6.out (edc_cell [⟨3 - wz, ln_⟩]) (by unfold maxLen; omega) (by omega) HBA.out ?_; intro v8 w8 ho8 hg8 hvb8; obtain ⟨A8, c8, e8, _⟩ := own_slice ho8; subst e8; have HO8 := Lib.hid ho8; have HB8 := Lib.hid (bel_own HBX.out rfl HO6.out hg8); clear ho8 hg8 hvb8))
      clear hW6 a0 a1 z1 hw3
      go_roundg (k - (j + 1))
      case measure => omega
      case rel => exact ⟨j + 1, no + 1, A8, c8, by omega, by omega, rfl, by omega, rfl, by first | rfl | exact congrArg (Value.int .i64) (by omega) | go_num, Lib.hid (by rw [HPK.out, ← List.append_assoc, edc_app, edc_one]; exact HO8.out), HB8⟩
    · have z1 : (kd == wz) = false := by rw [beq_eq_false_iff_ne]; exact hk_
      have HPK : Hid (pickE wz (segE s i (j + 1)) = pickE wz (segE s i j)) := Lib.hid (by rw [HSG.out, pickE_app, pickE_miss hk_, List.append_nil])
      clear hk_
      go_wp2_with fail
      clear a0 a1 z1 hw3
      go_roundg (k - (j + 1))
      case measure => omega
      case rel => exact ⟨j + 1, no, Ao, co, by omega, by omega, rfl, by omega, rfl, by first | rfl | exact congrArg (Value.int .i64) (by omega) | go_num, Lib.hid (by rw [HPK.out]; exact HO.out), HBW⟩
  · obtain rfl : j = k := by omega
    go_wp2_with fail
    exact HEX.out _ _ _ _ _ _ _ _ _ _ _ _ _ _ _ _ _ _ _ _ _ _ _ _ Ao no co _ hno HO HBW

set_option maxRecDepth 1000000 in
set_option maxHeartbeats 8000000 in
theorem bk_two {u1 u2 u7 u8 u9 u10 u11 u12 u13 u14 u15 u16 u17 u18 u19 u20 u21 u22 u23 u24 u25 u26 u27 u28 u29 u30 u31 u32 u33 u34 u35 u36 u37 u38 u39 u40 u41 u42 u43 u44 u45 u46 u47 u48 u49 u50 u51 u52 u53 u54 u55 u56 u57 u58 u59 u60 u61 u62 u63 u64 u65 u66 u67 u68 u69 u70 u71 u72 u73 u74 u75 u76 u77 u78 u79 u80 u81 u82 u83 u84 u85 u86 u87 u88 : Value} (b off n c : Nat) (s : List EdM) (HN : Hid (s.length = n)) (hnm : n ≤ 1000000) (w0 : World) (HR : Hid (Rd w0 (some ⟨b, off, none⟩) (edc s))) (A3 : Option Addr) (n3 c3 i k : Nat) (o0 : List EdM) (hik : i ≤ k) (hkn : k ≤ n) (hn3 : n3 ≤ 2000000) (wr : World) (HO3 : Hid (wr.ownsRow w0.heap.size 58 2 (.slice A3 n3 c3) n3 (edc (o0)))) (HB3 : Hid (Below w0.heap.size w0 wr)) (Q : Exit → Act → World → Prop)
    (hexit : ∀ (x6 x7 x59 x60 x61 x62 x63 x64 x65 x66 x67 x68 x69 x70 x71 x72 x73 x74 x75 x76 x77 x78 x79 x80 x81 x82 x83 x84 x85 x86 : Value) (Ao : Option Addr) (no co : Nat) (wx : World), no ≤ n3 + (k - i) + (k - i) → Hid (wx.ownsRow w0.heap.size 58 2 (.slice Ao no co) no (edc (o0 ++ accB (segE s i k) 0))) → Hid (Below w0.heap.size w0 wx) → Q .normal ⟨#[.slice (some ⟨b, off, none⟩) n c, u1, u2, .slice Ao no co, .int .i64 (i : Int), .int .i64 (k : Int), x6, x7, u8, u9, u10, u11, u12, u13, u14, u15, u16, u17, u18, u19, u20, u21, u22, u23, u24, u25, u26, u27, u28, u29, u30, u31, u32, u33, u34, u35, u36, u37, u38, u39, u40, u41, u42, u43, u44, u45, u46, u47, u48, u49, u50, u51, u52, u53, u54, u55, u56, u57, u58, x59, x60, x61, x62, x63, x64, x65, x66, x67, x68, x69, x70, x71, x72, x73, x74, x75, x76, x77, x78, x79, x80, x81, x82, x83, x84, x85, x86, u87, u88], []⟩ wx) :
    Code.wp Tryd.prog (bkBlk 4) Q ⟨#[.slice (some ⟨b, off, none⟩) n c, u1, u2, .slice A3 n3 c3, .int .i64 (i : Int), .int .i64 (k : Int), .int .i64 2, u7, u8, u9, u10, u11, u12, u13, u14, u15, u16, u17, u18, u19, u20, u21, u22, u23, u24, u25, u26, u27, u28, u29, u30, u31, u32, u33, u34, u35, u36, u37, u38, u39, u40, u41, u42, u43, u44, u45, u46, u47, u48, u49, u50, u51, u52, u53, u54, u55, u56, u57, u58, u59, u60, u61, u62, u63, u64, u65, u66, u67, u68, u69, u70, u71, u72, u73, u74, u75, u76, u77, u78, u79, u80, u81, u82, u83, u84, u85, u86, u87, u88], []⟩ wr := by
  have HEX := Lib.hid hexit
  clear hexit
  conv => arg 2; whnf
  go_wp2_with fail
  go_loopg [3, 6] 2 (fun gk_ so wv wr => ∃ (wn no : Nat) (Ao : Option Addr) (co : Nat), wn ≤ 2 ∧ wn = gk_ ∧ (wn = 2 → no ≤ n3) ∧ (wn = 1 → no ≤ n3 + (k - i)) ∧ (wn = 0 → no ≤ n3 + (k - i) + (k - i)) ∧ so = .slice Ao no co ∧ wv = .int .i64 (wn : Int) ∧ Hid (wr.ownsRow w0.heap.size 58 2 (.slice Ao no co) no (edc (o0 ++ accB (segE s i k) wn))) ∧ Hid (Below w0.heap.size w0 wr))
  case atStart => exact ⟨2, n3, _, _, by omega, rfl, by omega, by omega, by omega, rfl, rfl, Lib.hid (by rw [show accB (segE s i k) 2 = [] from rfl, List.append_nil]; exact HO3.out), HB3⟩
  case round =>
  clear HO3 HB3
  obtain ⟨wn, no, Ao, co, hwn, rfl, hn2, hn1, hn0, rfl, rfl, HO, HBW⟩ := hrel
  obtain rfl | rfl | rfl : wn = 2 ∨ wn = 1 ∨ wn = 0 := by omega
  · have hz_ := hn2 rfl
    clear hn0 hn1 hn2
    go_upto_block 6 with (fail)
    refine bk_inner b off n c s HN hnm w0 HR Ao no co i k 2 (by decide) (by decide) (o0 ++ accB (segE s i k) 2) hik hkn (by omega) _ HO HBW _ ?_
    intros
    rename_i Ao' no' co' wx hno' HO' HBW'
    go_wp2_with fail
    go_roundg 1
    case measure => omega
    case rel => exact ⟨1, no', Ao', co', by omega, rfl, by omega, by omega, by omega, rfl, by first | rfl | go_num, Lib.hid (by have h := HO'.out; (first | exact h | (rw [List.append_assoc] at h; exact h))), HBW'⟩
  · have hz_ := hn1 rfl
    clear hn0 hn1 hn2
    go_upto_block 6 with (fail)
    refine bk_inner b off n c s HN hnm w0 HR Ao no co i k 1 (by decide) (by decide) (o0 ++ accB (segE s i k) 1) hik hkn (by omega) _ HO HBW _ ?_
    intros
    rename_i Ao' no' co' wx hno' HO' HBW'
    go_wp2_with fail
    go_roundg 0
    case measure => omega
    case rel => exact ⟨0, no', Ao', co', by omega, rfl, by omega, by omega, by omega, rfl, by first | rfl | go_num, Lib.hid (by have h := HO'.out; (first | exact h | (rw [List.append_assoc] at h; exact h))), HBW'⟩
  · have hz_ := hn0 rfl
    clear hn0 hn1 hn2
    go_wp2_with fail
    exact HEX.out _ _ _ _ _ _ _ _ _ _ _ _ _ _ _ _ _ _ _ _ _ _ _ _ _ _ _ _ _ _ Ao no co _ hz_ (Lib.hid (by have h := HO.out; exact h)) HBW

set_option maxRecDepth 1000000 in
set_option maxHeartbeats 8000000 in
theorem bk_end {u1 u2 u3 u4 u6 u7 u8 u9 u10 u11 u12 u13 u14 u15 u16 u17 u18 u19 u20 u21 u22 u23 u24 u25 u26 u27 u28 u29 u30 u31 u32 u33 u34 u35 u36 u37 u38 u39 u40 u41 u42 u43 u44 u45 u46 u47 u48 u49 u50 u51 u52 u53 u54 u55 u56 u57 u58 u59 u60 u61 u62 u63 u64 u65 u66 u67 u68 u69 u70 u71 u72 u73 u74 u75 u76 u77 u78 u79 u80 u81 u82 u83 u84 u85 u86 u87 u88 : Value} (b off n c : Nat) (s : List EdM) (HN : Hid (s.length = n)) (hnm : n ≤ 1000000) (w0 : World) (HR : Hid (Rd w0 (some ⟨b, off, none⟩) (edc s))) (i : Nat) (hin : i ≤ n) (wr : World) (HBW : Hid (Below w0.heap.size w0 wr)) (Q : Exit → Act → World → Prop)
    (hexit : ∀ (x37 x38 x39 x40 x41 x42 x43 x44 x45 x46 x47 x48 x49 x50 x51 x52 x53 x54 x55 x56 x57 x58 : Value) (k : Nat) (wx : World), i ≤ k → k ≤ n → Hid (∀ e ∈ segE s i k, chgB e = true) → Hid (∀ e, s[k]? = some e → ¬ chgB e = true) → wx = wr → Q .normal ⟨#[.slice (some ⟨b, off, none⟩) n c, u1, u2, u3, u4, .int .i64 (k : Int), u6, u7, u8, u9, u10, u11, u12, u13, u14, u15, u16, u17, u18, u19, u20, u21, u22, u23, u24, u25, u26, u27, u28, u29, u30, u31, u32, u33, u34, u35, u36, x37, x38, x39, x40, x41, x42, x43, x44, x45, x46, x47, x48, x49, x50, x51, x52, x53, x54, x55, x56, x57, x58, u59, u60, u61, u62, u63, u64, u65, u66, u67, u68, u69, u70, u71, u72, u73, u74, u75, u76, u77, u78, u79, u80, u81, u82, u83, u84, u85, u86, u87, u88], []⟩ wx) :
    Code.wp Tryd.prog (bkBlk 2) Q ⟨#[.slice (some ⟨b, off, none⟩) n c, u1, u2, u3, u4, .int .i64 (i : Int), u6, u7, u8, u9, u10, u11, u12, u13, u14, u15, u16, u17, u18, u19, u20, u21, u22, u23, u24, u25, u26, u27, u28, u29, u30, u31, u32, u33, u34, u35, u36, u37, u38, u39, u40, u41, u42, u43, u44, u45, u46, u47, u48, u49, u50, u51, u52, u53, u54, u55, u56, u57, u58, u59, u60, u61, u62, u63, u64, u65, u66, u67, u68, u69, u70, u71, u72, u73, u74, u75, u76, u77, u78, u79, u80, u81, u82, u83, u84, u85, u86, u87, u88], []⟩ wr := by
  have HEX := Lib.hid hexit
  clear hexit
  conv => arg 2; whnf
  obtain ⟨w2, hw2_⟩ : ∃ x, x = wr := ⟨_, rfl⟩
  subst hw2_
  go_wp2_with fail
  go_loopg [5] ((n - i) * 1) (fun gk_ kv wr => ∃ (k : Nat), i ≤ k ∧ k ≤ n ∧ gk_ = n - k ∧ kv = .int .i64 (k : Int) ∧ Hid (∀ e ∈ segE s i k, chgB e = true) ∧ wr = w2)
  case atStart => exact ⟨i, by omega, by omega, by omega, rfl, Lib.hid (by rw [segE_self]; intro e he; cases he), rfl⟩
  case round =>
  obtain ⟨k, hik, hkn, rfl, rfl, HC, rfl⟩ := hrel
  by_cases hlt : k < n
  · have i1 : (k : Int) < (n : Int) := by omega
    have hlt' : k < s.length := by rw [HN.out]; exact hlt
    have hrd := HR.out.below HBW.out
    have RS := rd_ed hrd k hlt'
    obtain ⟨⟨kd, ln_⟩, he⟩ : ∃ e, s[k] = e := ⟨_, rfl⟩
    rw [he] at RS
    have HE : Hid (s[k]? = some (⟨kd, ln_⟩ : EdM)) := Lib.hid (by rw [List.getElem?_eq_getElem hlt', he])
    have a0 : wr.cell? ⟨b, off + k * 2, none⟩ = some (.int .i64 kd) := RS 0 _ rfl
    have a1 : wr.cell? ⟨b, off + k * 2 + 1, none⟩ = some (.string ln_) := RS 1 _ rfl
    have HSG : Hid (segE s i (k + 1) = segE s i k ++ [⟨kd, ln_⟩]) := Lib.hid (segE_succ HE.out hik)
    clear hrd RS he hlt'
    by_cases h1 : kd = 1
    · have z1 : (kd == 1) = true := by rw [beq_iff_eq]; exact h1
      have HC1 : Hid (∀ e ∈ segE s i (k + 1), chgB e = true) := Lib.hid (by
        rw [HSG.out]; intro e he; rcases List.mem_append.1 he with h | h
        · exact HC.out e h
        · rw [List.mem_singleton.1 h]; simp [chgB, h1])
      clear h1
      go_wp2_with fail
      clear a0 a1 z1
      go_roundg (n - (k + 1))
      case measure => omega
      case rel => exact ⟨k + 1, by omega, by omega, rfl, by first | rfl | exact congrArg (Value.int .i64) (by omega) | go_num, HC1, rfl⟩
    · have z1 : (kd == 1) = false := by rw [beq_eq_false_iff_ne]; exact h1
      by_cases h2 : kd = 2
      · have z2 : (kd == 2) = true := by rw [beq_iff_eq]; exact h2
        have HC1 : Hid (∀ e ∈ segE s i (k + 1), chgB e = true) := Lib.hid (by
          rw [HSG.out]; intro e he; rcases List.mem_append.1 he with h | h
          · exact HC.out e h
          · rw [List.mem_singleton.1 h]; simp [chgB, h2])
        clear h1 h2
        go_wp2_with fail
        clear a0 a1 z1 z2
        go_roundg (n - (k + 1))
        case measure => omega
        case rel => exact ⟨k + 1, by omega, by omega, rfl, by first | rfl | exact congrArg (Value.int .i64) (by omega) | go_num, HC1, rfl⟩
      · have z2 : (kd == 2) = false := by rw [beq_eq_false_iff_ne]; exact h2
        have HNC : Hid (∀ e, s[k]? = some e → ¬ chgB e = true) := Lib.hid (by
          intro e he
          rw [HE.out] at he
          cases he
          simp [chgB, h1, h2])
        clear h1 h2
        go_wp2_with fail
        exact HEX.out _ _ _ _ _ _ _ _ _ _ _ _ _ _ _ _ _ _ _ _ _ _ k _ hik hkn HC HNC rfl
  · obtain rfl : k = n := by omega
    have HNC : Hid (∀ e, s[k]? = some e → ¬ chgB e = true) := Lib.hid (by
      intro e he
      have := (List.getElem?_eq_some_iff.1 he).1
      rw [HN.out] at this
      omega)
    go_wp2_with fail
    exact HEX.out _ _ _ _ _ _ _ _ _ _ _ _ _ _ _ _ _ _ _ _ _ _ k _ hik hkn HC HNC rfl

set_option maxRecDepth 100000 in
set_option maxHeartbeats 8000000 in
theorem rback_any (A : Option Addr) (s : List EdM) (c : Nat) (w : World) (hr : Rd w A (edc s)) (hl : s.length ≤ 1000000) :
    Calls Tryd.prog 22 #[.slice A s.length c] w fun e w' => ∃ A' c', e = .returned (.slice A' (backP s).length c') ∧ Rd w' A' (edc (backP s)) ∧ Below w.heap.size w w' := by
  have HR := Lib.hid hr
  obtain ⟨n, hn⟩ : ∃ n, s.length = n := ⟨_, rfl⟩
  have HN := Lib.hid hn
  rw [hn] at hl ⊢
  obtain ⟨q, hq⟩ : ∃ q, backP s = q := ⟨_, rfl⟩
  have HQQ : Hid (tidyG ((s.drop 0).map flipE) [] [] = q) := Lib.hid hq
  rw [hq]
  obtain ⟨W2, hW2⟩ : ∃ W, w.alloc (.cells #[] 58) = W := ⟨_, rfl⟩
  obtain ⟨r2, b2, s2⟩ := new_row hW2
  have O2 : Hid (W2.ownsRow w.heap.size 58 2 (.slice (some ⟨w.heap.size, 0, none⟩) 0 0) 0 (edc [])) := Lib.hid (by
    rw [← hW2]; exact own_new w w.heap.size 58 2 0 [] (Nat.le_refl _) rfl (by decide))
  have HB2 := Lib.hid b2
  obtain ⟨w0, hw0⟩ : ∃ x, x = w := ⟨_, rfl⟩
  subst hw0
  clear hr hn r2 b2 s2 hq
  go_enter Tryd.func22, Tryd.ntmps22
  go_wp2_with fail
  clear hW2
  go_loopg [3, 4] (n * 1) (fun gk_ so iv wr => ∃ (i no : Nat) (Ao : Option Addr) (co : Nat) (out : List EdM), i ≤ n ∧ gk_ = n - i ∧ no ≤ 2 * i ∧ so = .slice Ao no co ∧ iv = .int .i64 (i : Int) ∧ Hid (tidyG ((s.drop i).map flipE) out [] = q) ∧ Hid (wr.ownsRow w0.heap.size 58 2 (.slice Ao no co) no (edc (out))) ∧ Hid (Below w0.heap.size w0 wr))
  case atStart => exact ⟨0, 0, _, 0, [], by omega, by omega, by omega, rfl, rfl, HQQ, O2, HB2⟩
  case round =>
  clear O2 HB2 HQQ
  obtain ⟨i, no, Ao, co, out, hi, rfl, hno, rfl, rfl, HQ, HO, HBW⟩ := hrel
  by_cases hlt : i < n
  · have i1 : (i : Int) < (n : Int) := by omega
    obtain ⟨b, off, hA, _⟩ := HR.out.all (by rw [edc_len, HN.out]; omega)
    have HA := Lib.hid hA
    rw [hA]
    have HRA : Hid (Rd w0 (some ⟨b, off, none⟩) (edc s)) := Lib.hid (by have h := HR.out; rw [hA] at h; exact h)
    clear hA
    have hlt' : i < s.length := by rw [HN.out]; exact hlt
    have hrd := HRA.out.below HBW.out
    have RS := rd_ed hrd i hlt'
    obtain ⟨⟨kd, ln_⟩, he⟩ : ∃ e, s[i] = e := ⟨_, rfl⟩
    rw [he] at RS
    have HE : Hid (s[i]? = some (⟨kd, ln_⟩ : EdM)) := Lib.hid (by rw [List.getElem?_eq_getElem hlt', he])
    have a0 : wr.cell? ⟨b, off + i * 2, none⟩ = some (.int .i64 kd) := RS 0 _ rfl
    have a1 : wr.cell? ⟨b, off + i * 2 + 1, none⟩ = some (.string ln_) := RS 1 _ rfl

    have HRS : Hid (wr.rangeAt b (off + i * 2) [.int .i64 kd, .string ln_]) := Lib.hid RS
    have HDR : Hid (s.drop i = ⟨kd, ln_⟩ :: s.drop (i + 1)) := Lib.hid (drop_of HE.out)
    clear hrd RS he hlt'
    by_cases h1 : kd = 1
    · subst h1
      go_upto_block 2 with (fail)
      refine bk_end b off n c s HN hl w0 HRA i (by omega) _ HBW _ ?_
      intros
      rename_i k wx hik hkn HC HNC hwx
      subst hwx
      have hk1 : i < k := by
        rcases Nat.lt_or_ge i k with h | h
        · exact h
        · have : k = i := by omega
          subst this
          exact absurd (by simp [chgB]) (HNC.out _ HE.out)
      have HWH := Lib.hid (tidy_whole s i k out hik (by rw [HN.out]; exact hkn) HC.out HNC.out)
      have HLK : Hid ((out ++ accB (segE s i k) 0).length = (out ++ pickE 2 (segE s i k) ++ pickE 1 (segE s i k)).length) := Lib.hid (by rw [List.append_assoc]; rfl)
      clear a0 a1
      go_upto_block 4 with (fail)
      refine bk_two b off n c s HN hl w0 HRA Ao no co i k out hik hkn (by omega) _ HO HBW _ ?_
      intros
      rename_i A8 n8 c8 wx hn8 HO8 HB8
      go_wp2_with fail
      rw [← HA.out]
      go_roundg (n - k)
      case measure => omega
      case rel => exact ⟨k, n8, A8, c8, out ++ accB (segE s i k) 0, hkn, rfl, by omega, rfl, rfl, Lib.hid (by have h := HQ.out; rw [HWH.out, List.append_assoc] at h; exact h), HO8, HB8⟩
    · by_cases h2 : kd = 2
      · subst h2
        clear h1
        go_upto_block 2 with (fail)
        refine bk_end b off n c s HN hl w0 HRA i (by omega) _ HBW _ ?_
        intros
        rename_i k wx hik hkn HC HNC hwx
        subst hwx
        have hk1 : i < k := by
          rcases Nat.lt_or_ge i k with h | h
          · exact h
          · have : k = i := by omega
            subst this
            exact absurd (by simp [chgB]) (HNC.out _ HE.out)
        have HWH := Lib.hid (tidy_whole s i k out hik (by rw [HN.out]; exact hkn) HC.out HNC.out)
        have HLK : Hid ((out ++ accB (segE s i k) 0).length = (out ++ pickE 2 (segE s i k) ++ pickE 1 (segE s i k)).length) := Lib.hid (by rw [List.append_assoc]; rfl)
        clear a0 a1
        go_upto_block 4 with (fail)
        refine bk_two b off n c s HN hl w0 HRA Ao no co i k out hik hkn (by omega) _ HO HBW _ ?_
        intros
        rename_i A8 n8 c8 wx hn8 HO8 HB8
        go_wp2_with fail
        rw [← HA.out]
        go_roundg (n - k)
        case measure => omega
        case rel => exact ⟨k, n8, A8, c8, out ++ accB (segE s i k) 0, hkn, rfl, by omega, rfl, rfl, Lib.hid (by have h := HQ.out; rw [HWH.out, List.append_assoc] at h; exact h), HO8, HB8⟩
      · have z1 : (kd != 1) = true := by rw [bne_iff_ne]; exact h1
        have z2 : (kd != 2) = true := by rw [bne_iff_ne]; exact h2
        have HQ1 : Hid (tidyG ((s.drop (i + 1)).map flipE) (out ++ [⟨kd, ln_⟩]) [] = q) := Lib.hid (by have h := HQ.out; rw [HDR.out, tidy_keep h1 h2, List.append_nil] at h; exact h)
        clear h1 h2
        obtain ⟨W6, hW6⟩ : ∃ W, wr.alloc (.cells #[.int .i64 kd, .string ln_] 58) = W := ⟨_, rfl⟩
        obtain ⟨r6, b6, s6⟩ := new_row hW6
        have HO6 := Lib.hid (own_below HO.out b6)
        have HR6 : Hid (Rd W6 (some ⟨wr.heap.size, 0, none⟩) [.int .i64 kd, .string ln_]) := Lib.hid (range_rd (range_of_row (cs := [.int .i64 kd, .string ln_]) r6))
        have HBX := Lib.hid (ext_trans HBW.out b6)
        have HBA := Lib.hid HBX.out.size
        have HBE := Lib.hid (red_built kd ln_)
        clear r6 b6 s6
        go_wp2_with (first
          | ((with_reducible (refine wpList_load_cells 58 _ b (off + i * 2) ([.int .i64 kd, .string ln_]) HRS.out Tryd.underlying58 rfl info_red ?_ rfl ?_ ?_)); (exact rfl); (exact rfl))
          | (at_builtin; refine wpList_append_rd _ rfl _ _ 33 rfl w0.heap.size 58 _ 2 24 Tryd.underlying33 info_red2 rfl (by decide) (.slice Ao no co) no _ rfl HO6.out _ 1 1 [.int .i64 kd, .string ln_] rfl rfl HR6.out (edc_cell [⟨kd, ln_⟩]) (by unfold maxLen; omega) (by omega) HBA.out ?_; intro v8 w8 ho8 hg8 hvb8; obtain ⟨A8, c8, e8, _⟩ := own_slice ho8; subst e8; have HO8 := Lib.hid ho8; have HB8 := Lib.hid (bel_own HBX.out rfl HO6.out hg8); clear ho8 hg8 hvb8))

        rw [← HA.out]
        clear hW6 a0 a1 z1 z2
        go_roundg (n - (i + 1))
        case measure => omega
        case rel => exact ⟨i + 1, no + 1, A8, c8, out ++ [⟨kd, ln_⟩], by omega, rfl, by omega, rfl, by first | rfl | exact congrArg (Value.int .i64) (by omega) | go_num, HQ1, Lib.hid (by rw [edc_app, edc_one]; exact HO8.out), HB8⟩
  · obtain rfl : i = n := by omega
    clear hlt hi
    have hq : q = out := by
      have h := HQ.out
      rw [← HN.out, List.drop_length] at h
      simpa [tidyG] using h.symm
    have hl7 : no = out.length := by have h := HO.out.1; rw [edc_len] at h; omega
    subst hq
    subst hl7
    go_wp2_with fail
    go_ret
    exact ⟨_, _, rfl, own_rd HO.out, HBW.out⟩
end Go.Proofs.YtmniggjadfdheaaDoor
