/- ShaBack: the walk. -/
import Derived.Test.YtkiggfahcakdeaaShaCmp
import Derived.Lib.PathFns
namespace Go.Proofs.Ytkiggfahcakdeaa
set_option linter.unusedVariables false
set_option linter.unusedSimpArgs false
open Go.RowKit

/-! ### plain -/
theorem okd_hex (l : List UInt8) : okd (hexL l) = true := by
  induction l with
  | nil => rfl
  | cons c r ih =>
    have hc := c.toNat_lt
    have h1 := ud_dg (c.toNat / 16) (by omega)
    have h2 := ud_dg (c.toNat % 16) (by omega)
    simp only [okd, hexL, List.all_cons, Bool.and_eq_true, decide_eq_true_eq] at ih ⊢
    exact ⟨by omega, by omega, ih⟩
theorem pairs_hex (l : List UInt8) : pairs (hexL l) = l := by
  induction l with
  | nil => rfl
  | cons c r ih =>
    have hc := c.toNat_lt
    have h1 := ud_dg (c.toNat / 16) (by omega)
    have h2 := ud_dg (c.toNat % 16) (by omega)
    simp only [hexL, pairs, ih, b16, h1, h2]
    congr 1
    apply UInt8.toNat_inj.1
    rw [UInt8.toNat_ofNat']
    omega
theorem hex_pairs : ∀ (l : List UInt8) (m : Nat), l.length = 2 * m → okd l = true → hexL (pairs l) = l
  | [], _, _, _ => rfl
  | [_], m, h, _ => by simp at h; omega
  | a :: b :: r, m, h, ho => by
    simp only [okd, List.all_cons, Bool.and_eq_true, decide_eq_true_eq] at ho
    obtain ⟨h1, h2, h3⟩ := ho
    have ih := hex_pairs r (m - 1) (by simp at h; omega) h3
    have ha := (ud_lt a).2
    have hb := (ud_lt b).2
    have hn : (b16 a b).toNat = 16 * (ud a).toNat + (ud b).toNat := by
      unfold b16; rw [UInt8.toNat_ofNat']; omega
    simp only [pairs, hexL, ih, hn]
    rw [show (16 * (ud a).toNat + (ud b).toNat) / 16 = (ud a).toNat by omega, show (16 * (ud a).toNat + (ud b).toNat) % 16 = (ud b).toNat by omega, dg_ud a h1, dg_ud b h2]
theorem parse_hex (id : List UInt8) (h : id.length = 32) : parseL (hexL id) = (id, true) := by
  unfold parseL
  rw [if_pos ⟨by rw [hexL_len, h], okd_hex id⟩, pairs_hex]
theorem parse_short (l : List UInt8) (h : l.length ≠ 64) : parseL l = (zero32, false) := by
  unfold parseL
  rw [if_neg]
  exact fun h2 => h h2.1
theorem hexL_inj {a b : List UInt8} (h : hexL a = hexL b) : a = b := by
  have := congrArg pairs h
  rwa [pairs_hex, pairs_hex] at this
/-- a text that is parsed: its digits are the ID's -/
theorem parse_ok (l : List UInt8) (h : (parseL l).2 = true) : hexL (parseL l).1 = l := by
  unfold parseL at h ⊢
  split
  · rename_i hc
    exact hex_pairs l 32 (by omega) hc.2
  · rename_i hc
    rw [if_neg hc] at h
    cases h
theorem parse_bad (l : List UInt8) (h : (parseL l).2 = false) : (parseL l).1 = zero32 := by
  unfold parseL at h ⊢
  split
  · rename_i hc
    rw [if_pos hc] at h
    cases h
  · rfl
theorem turned_same (l : List UInt8) (i : Nat) (c : UInt8) (h : i < l.length) : l.take i ++ [c] ++ l.drop (i + 1) = l ↔ c = l[i] := by
  constructor
  · intro he
    have := congrArg (fun x => x[i]?) he
    simp only [List.append_assoc] at this
    rw [List.getElem?_append_right (by rw [List.length_take]; omega), List.length_take, Nat.min_eq_left (by omega)] at this
    simp at this
    rw [List.getElem?_eq_getElem h] at this
    exact Option.some.inj this
  · rintro rfl
    rw [← List.take_succ_eq_append_getElem h, List.take_append_drop]

theorem i64_mask (x : Int) (m : Nat) (hm : m < 9223372036854775808) : ∃ n : Nat, n ≤ m ∧ bits .and .i64 x (m : Int) = (n : Int) := by
  refine ⟨(BitVec.ofInt 64 x &&& BitVec.ofInt 64 (m : Int)).toNat, ?_, ?_⟩
  · rw [BitVec.toNat_and]
    refine Nat.le_trans Nat.and_le_right ?_
    rw [BitVec.ofInt_natCast, BitVec.toNat_ofNat]
    exact Nat.mod_le _ _
  · show IntKind.i64.wrap ((BitVec.ofInt 64 x &&& BitVec.ofInt 64 (m : Int)).toNat : Int) = _
    have h1 : (BitVec.ofInt 64 x &&& BitVec.ofInt 64 (m : Int)).toNat ≤ m := by
      rw [BitVec.toNat_and]
      refine Nat.le_trans Nat.and_le_right ?_
      rw [BitVec.ofInt_natCast, BitVec.toNat_ofNat]
      exact Nat.mod_le _ _
    exact IntWalk.i64_in _ (by omega)

theorem bin_sadd {P : Program} {t : TypeId} (a b : ByteArray) (w : World) (h : a.size + b.size ≤ 9223372036854775807) : (binOp .add t (.string a) (.string b)).run P w = .ok (.string (a ++ b)) w := by
  simp [binOp, run_string_add_sum w a b h]
theorem str_take (S : ByteArray) (i : Nat) : (S.extract 0 i).data.toList = S.data.toList.take i := by simp [ByteArray.data_extract]
theorem str_drop (S : ByteArray) (i : Nat) : (S.extract i S.size).data.toList = S.data.toList.drop i := by
  rw [ByteArray.data_extract, Array.toList_extract]
  have h : S.data.toList.length = S.size := size_toList S
  rw [List.extract_eq_take_drop]
  exact List.take_of_length_le (by rw [List.length_drop]; omega)
theorem str_append (a b : ByteArray) : (a ++ b).data.toList = a.data.toList ++ b.data.toList := by
  simp

set_option maxRecDepth 100000 in
set_option maxHeartbeats 4000000 in
theorem shaBack_any (id : List UInt8) (hid : id.length = 32) (at_ : Int) (c : UInt8) (w : World) :
    Calls Try.prog 4 #[.agg (b8s id).toArray, .int .i64 at_, .int .u8 (c.toNat : Int)] w fun e w' => e = .returned (.bool true) ∧ Below w.heap.size w w' := by
  obtain ⟨W0, hW0, HR, HB, HS⟩ := id_box w id
  have HI : Hid ((Try.prog.info? 23).map (·.size) = some (b8s id).toArray.size) := Lib.hid (info_of_arr id hid info_id)
  obtain ⟨i, hi, hmask⟩ : ∃ n : Nat, n ≤ 63 ∧ bits .and .i64 at_ 63 = (n : Int) := i64_mask at_ 63 (by omega)
  obtain ⟨S, hS⟩ : ∃ S : ByteArray, (⟨(hexL id).toArray⟩ : ByteArray) = S := ⟨_, rfl⟩
  have hSl : S.data.toList = hexL id := by rw [← hS]
  have hSz : S.size = 64 := by rw [← size_toList, hSl, hexL_len, hid]
  have hhex := fun w => hex_any id hid w
  rw [hS] at hhex
  have hpar := fun w => parse_any S (by unfold maxLen; omega) w
  rw [hSl, parse_hex id hid] at hpar
  have HHEX := Lib.hid hhex
  have HPAR := Lib.hid hpar
  have HSL := Lib.hid hSl
  have hguard : Program.eqGuardType Try.prog Try.prog.depth 23 = false := by kernel_rfl
  have hne : ∀ w : World, (binOp .neq 23 (.agg (b8s id).toArray) (.agg (b8s id).toArray)).run Try.prog w = .ok (.bool false) w := by
    intro w
    rw [run_neq_ids (P := Try.prog) (t := 23) (e := 5) (n := 32) Try.underlying23 Try.underlying5 (by kernel_rfl) (by kernel_rfl) (by kernel_rfl) id id hid hid w]
    simp
  clear hS hSl hhex hpar
  go_enter Try.func4, Try.ntmps4
  go_wp2_with fail
  clear hW0
  refine (hexing_any _).mono ?_
  rintro e w1 ⟨rfl, hb1⟩
  have hr1 := (hb1.block _ HS.out).trans HR.out
  have HR1 := Lib.hid hr1
  clear hr1
  go_wp2_with (refine wpList_load_row rfl _ _ rfl _ rfl _ _ _ _ HR1.out Try.underlying23 rfl HI.out ?_)
  refine (HHEX.out w1).mono ?_
  rintro e w2 ⟨rfl, hb2⟩
  have hb02 := ext_trans hb1 hb2
  go_wp2_with fail
  refine (HPAR.out w2).mono ?_
  rintro e w3 ⟨rfl, hb3⟩
  have hb03 := ext_trans hb02 hb3
  obtain ⟨H, Wa, W4, hH, hWa, hW4, HTH, HROW4, HB4, HS4⟩ := arr_place (w := w3) 23 id hid
  have HW4 := Lib.hid hW4
  have hb04 := ext_trans hb03 HB4.out
  have hr4 := (hb04.block _ HS.out).trans HR.out
  have HR4 := Lib.hid hr4
  have HB04 := Lib.hid hb04
  clear hW4 hr4 hb1 hb2 hb3 hb02 hb03 hb04 HR1
  have hz1 : ((64 : Int) != 64) = false := rfl
  go_wp2_with (first
    | ((with_reducible (refine wpList_store_mid rfl _ _ _ rfl ?_ ?_ ?_ ?_ ?_ ?_ ?_ ?_ ?_)); (exact H); (exact 0); (exact (b8s id).toArray); (exact rfl); (exact rfl); (exact HTH.out); (exact HI.out); (exact all_oneCell_toArray (b8s_one' _)); rw [HW4.out])
    | ((with_reducible (refine wpList_load_row_w _ _ rfl _ rfl _ _ _ _ HROW4.out Try.underlying23 rfl HI.out ?_ ?_)); (focus (rfl)))
    | ((with_reducible (refine wpList_load_row_w _ _ rfl _ rfl _ _ _ _ HR4.out Try.underlying23 rfl HI.out ?_ ?_)); (focus (rfl))))
  have hi1 : (i : Int) ≤ 63 := by omega
  have hi2 : i ≤ S.size := by omega
  have hi3 : i + 1 ≤ S.size := by omega
  have hi4 : (i : Int) ≤ (S.size : Int) := by omega
  have hi5 : (i : Int) + 1 ≤ (S.size : Int) := by omega
  have hi6 : (0 : Int) ≤ (i : Int) + 1 := by omega
  have HSZ := Lib.hid hSz
  clear hSz
  have ha := fun w => bin_add (P := Try.prog) (t := 3) (i : Int) 1 ((i : Int) + 1) w rfl (by omega) (by omega)
  refine wp_region_sched (fun w' => True) [(true, 0), (true, 1), (true, 2), (true, 3), (true, 7), (true, 8), (true, 9), (true, 10), (false, 4), (false, 5), (true, 6), (true, 11), (true, 12)] (by kernel_rfl) (by kernel_rfl) rfl (by kernel_rfl) trivial ?_
  (first | (refine wpS_pass _ rfl (by rfl) ?_; simp only [Act.put, List.getElem_toArray, List.getElem_cons_zero, List.getElem_cons_succ, List.setIfInBounds_toArray, List.set_cons_zero, List.set_cons_succ]) | (refine wpS_take _ ?_ rfl (by rfl) ?_ ?_; rotate_left; (focus (intro w' hS'; (try dsimp only at hS'); (repeat (have hS1 := hS'.1; replace hS' := hS'.2)); go_simp; (try with_reducible rfl); done)); simp only [Act.put, List.getElem_toArray, List.getElem_cons_zero, List.getElem_cons_succ, List.setIfInBounds_toArray, List.set_cons_zero, List.set_cons_succ]))
  (first | (refine wpS_pass _ rfl (by rfl) ?_; simp only [Act.put, List.getElem_toArray, List.getElem_cons_zero, List.getElem_cons_succ, List.setIfInBounds_toArray, List.set_cons_zero, List.set_cons_succ]) | (refine wpS_take _ ?_ rfl (by rfl) ?_ ?_; rotate_left; (focus (intro w' hS'; (try dsimp only at hS'); (repeat (have hS1 := hS'.1; replace hS' := hS'.2)); go_simp; (try with_reducible rfl); done)); simp only [Act.put, List.getElem_toArray, List.getElem_cons_zero, List.getElem_cons_succ, List.setIfInBounds_toArray, List.set_cons_zero, List.set_cons_succ]))
  (first | (refine wpS_pass _ rfl (by rfl) ?_; simp only [Act.put, List.getElem_toArray, List.getElem_cons_zero, List.getElem_cons_succ, List.setIfInBounds_toArray, List.set_cons_zero, List.set_cons_succ]) | (refine wpS_take _ ?_ rfl (by rfl) ?_ ?_; rotate_left; (focus (intro w' hS'; (try dsimp only at hS'); (repeat (have hS1 := hS'.1; replace hS' := hS'.2)); go_simp; (try with_reducible rfl); done)); simp only [Act.put, List.getElem_toArray, List.getElem_cons_zero, List.getElem_cons_succ, List.setIfInBounds_toArray, List.set_cons_zero, List.set_cons_succ]))
  (first | (refine wpS_pass _ rfl (by rfl) ?_; simp only [Act.put, List.getElem_toArray, List.getElem_cons_zero, List.getElem_cons_succ, List.setIfInBounds_toArray, List.set_cons_zero, List.set_cons_succ]) | (refine wpS_take _ ?_ rfl (by rfl) ?_ ?_; rotate_left; (focus (intro w' hS'; (try dsimp only at hS'); (repeat (have hS1 := hS'.1; replace hS' := hS'.2)); go_simp; (try with_reducible rfl); done)); simp only [Act.put, List.getElem_toArray, List.getElem_cons_zero, List.getElem_cons_succ, List.setIfInBounds_toArray, List.set_cons_zero, List.set_cons_succ]))
  (first | (refine wpS_pass _ rfl (by rfl) ?_; simp only [Act.put, List.getElem_toArray, List.getElem_cons_zero, List.getElem_cons_succ, List.setIfInBounds_toArray, List.set_cons_zero, List.set_cons_succ]) | (refine wpS_take _ ?_ rfl (by rfl) ?_ ?_; rotate_left; (focus (intro w' hS'; (try dsimp only at hS'); (repeat (have hS1 := hS'.1; replace hS' := hS'.2)); go_simp; (try with_reducible rfl); done)); simp only [Act.put, List.getElem_toArray, List.getElem_cons_zero, List.getElem_cons_succ, List.setIfInBounds_toArray, List.set_cons_zero, List.set_cons_succ]))
  (first | (refine wpS_pass _ rfl (by rfl) ?_; simp only [Act.put, List.getElem_toArray, List.getElem_cons_zero, List.getElem_cons_succ, List.setIfInBounds_toArray, List.set_cons_zero, List.set_cons_succ]) | (refine wpS_take _ ?_ rfl (by rfl) ?_ ?_; rotate_left; (focus (intro w' hS'; (try dsimp only at hS'); (repeat (have hS1 := hS'.1; replace hS' := hS'.2)); go_simp; (try with_reducible rfl); done)); simp only [Act.put, List.getElem_toArray, List.getElem_cons_zero, List.getElem_cons_succ, List.setIfInBounds_toArray, List.set_cons_zero, List.set_cons_succ]))
  refine wpS_take _ _ rfl (by rfl) (fun w' hS' => exec_bin _ _ _ _ _ rfl _ _ _ rfl rfl rfl (ha w')) ?_
  simp only [Act.put, List.getElem_toArray, List.getElem_cons_zero, List.getElem_cons_succ, List.setIfInBounds_toArray, List.set_cons_zero, List.set_cons_succ]
  (first | (refine wpS_pass _ rfl (by rfl) ?_; simp only [Act.put, List.getElem_toArray, List.getElem_cons_zero, List.getElem_cons_succ, List.setIfInBounds_toArray, List.set_cons_zero, List.set_cons_succ]) | (refine wpS_take _ ?_ rfl (by rfl) ?_ ?_; rotate_left; (focus (intro w' hS'; (try dsimp only at hS'); (repeat (have hS1 := hS'.1; replace hS' := hS'.2)); go_simp; (try with_reducible rfl); done)); simp only [Act.put, List.getElem_toArray, List.getElem_cons_zero, List.getElem_cons_succ, List.setIfInBounds_toArray, List.set_cons_zero, List.set_cons_succ]))
  refine wpS_do _ rfl (by rfl) (fun K hK => ?_)
  go_simp
  refine hK.out _ _ trivial (fun hS => ?_)
  clear hK hS
  have hrd : Rd (W4.alloc (.cells #[.int .u8 (c.toNat : Int)] 5)).drew (some ⟨W4.heap.size, 0, none⟩) (b8s [c]) := (Rd.new W4 (b8s [c]) 5).drew
  have hcv := run_str_of_bytes (P := Try.prog) (src := 32) (dst := 9) (e := 5) 1 1 rfl Try.underlying32 Try.underlying5 Try.underlying9 hrd
  refine wpS_do _ rfl (by rfl) (fun K hK => ?_)
  go_simp
  refine hK.out _ _ trivial (fun hS => ?_)
  clear hK hS hcv hrd ha
  have he0 : (S.extract 0 i).size = i := by rw [← size_toList, str_take, List.length_take, size_toList]; omega
  have he1 : (S.extract (i + 1) S.size).size = S.size - (i + 1) := by rw [← size_toList, str_drop, List.length_drop, size_toList]
  have hs64 := HSZ.out
  have hc1 : (⟨#[c]⟩ : ByteArray).size = 1 := rfl
  have hb1 := fun w => bin_sadd (P := Try.prog) (t := 9) (S.extract 0 i) ⟨#[c]⟩ w (by rw [he0, hc1]; omega)
  have hb2 := fun w => bin_sadd (P := Try.prog) (t := 9) (S.extract 0 i ++ ⟨#[c]⟩) (S.extract (i + 1) S.size) w (by rw [ByteArray.size_append, he0, hc1, he1]; omega)
  have hT : (S.extract 0 i ++ ⟨#[c]⟩ ++ S.extract (i + 1) S.size).data.toList = (hexL id).take i ++ [c] ++ (hexL id).drop (i + 1) := by
    rw [str_append, str_append, str_take, str_drop, HSL.out]
  have hTs : (S.extract 0 i ++ ⟨#[c]⟩ ++ S.extract (i + 1) S.size).size = 64 := by
    rw [ByteArray.size_append, ByteArray.size_append, he0, hc1, he1]; omega
  have HT0 := Lib.hid hT
  have HTS := Lib.hid hTs
  clear hs64 he0 he1 hc1 hT hTs
  refine wpS_take _ _ rfl (by rfl) (fun w' hS' => exec_bin _ _ _ _ _ rfl _ _ _ rfl rfl rfl (hb1 w')) ?_
  simp only [Act.put, List.getElem_toArray, List.getElem_cons_zero, List.getElem_cons_succ, List.setIfInBounds_toArray, List.set_cons_zero, List.set_cons_succ]
  refine wpS_take _ _ rfl (by rfl) (fun w' hS' => exec_bin _ _ _ _ _ rfl _ _ _ rfl rfl rfl (hb2 w')) ?_
  simp only [Act.put, List.getElem_toArray, List.getElem_cons_zero, List.getElem_cons_succ, List.setIfInBounds_toArray, List.set_cons_zero, List.set_cons_succ]
  (repeat (first | (refine wpS_pass _ rfl (by rfl) ?_; simp only [Act.put, List.getElem_toArray, List.getElem_cons_zero, List.getElem_cons_succ, List.setIfInBounds_toArray, List.set_cons_zero, List.set_cons_succ]) | (refine wpS_take _ ?_ rfl (by rfl) ?_ ?_; rotate_left; (focus (intro w' hS'; (try dsimp only at hS'); (repeat (have hS1 := hS'.1; replace hS' := hS'.2)); go_simp; (try with_reducible rfl); done)); simp only [Act.put, List.getElem_toArray, List.getElem_cons_zero, List.getElem_cons_succ, List.setIfInBounds_toArray, List.set_cons_zero, List.set_cons_succ])))
  refine wpS_done ?_
  clear hb1 hb2
  generalize (S.extract 0 i ++ ⟨#[c]⟩ ++ S.extract (i + 1) S.size) = T at *
  have hT := HT0.out
  have hTs := HTS.out
  have hE : (S.extract 0 i).data.toList = (hexL id).take i := by rw [str_take, HSL.out]
  have hEs : (S.extract 0 i).size = i := by rw [← size_toList, str_take, List.length_take, size_toList]; omega
  obtain ⟨E, hEE⟩ : ∃ E, S.extract 0 i = E := ⟨_, rfl⟩
  have hpE := fun w => parse_any E (by rw [← hEE, hEs]; unfold maxLen; omega) w
  have hpe0 : parseL E.data.toList = (zero32, false) := parse_short _ (by rw [← hEE, size_toList, hEs]; omega)
  rw [hpe0] at hpE
  have HPE := Lib.hid hpE
  have HEE := Lib.hid hEE
  clear hE hEs hEE hpE hpe0
  have hpT := fun w => parse_any T (by rw [hTs]; unfold maxLen; omega) w
  have hlT := parseL_len T.data.toList
  have hokT := parse_ok T.data.toList
  have hbadT := parse_bad T.data.toList
  have hsame := turned_same (hexL id) i c (by rw [hexL_len, hid]; omega)
  rw [← hT] at hsame
  obtain ⟨X, hX⟩ : ∃ X, (parseL T.data.toList).1 = X := ⟨_, rfl⟩
  obtain ⟨b, hb⟩ : ∃ b, (parseL T.data.toList).2 = b := ⟨_, rfl⟩
  rw [hX] at hpT hlT hokT hbadT
  rw [hb] at hpT hokT hbadT
  have HPT := Lib.hid hpT
  have HIX : Hid ((Try.prog.info? 23).map (·.size) = some (b8s X).toArray.size) := Lib.hid (info_of_arr X hlT info_id)
  have HIZ : Hid ((Try.prog.info? 23).map (·.size) = some (b8s zeros32).toArray.size) := Lib.hid (info_of_arr zeros32 rfl info_id)
  have HOK := Lib.hid hokT
  have HBAD := Lib.hid hbadT
  have HSAME := Lib.hid hsame
  have HTL := Lib.hid hT
  have HB5 : Hid (Below W0.heap.size W0 (W4.alloc (.cells #[.int .u8 (c.toNat : Int)] 5)).drew) := Lib.hid (ext_alloc HB04.out _).drew
  clear hpT hokT hbadT hsame hT hX hb hTs
  generalize (W4.alloc (.cells #[.int .u8 (c.toNat : Int)] 5)).drew = w5 at *
  go_wp2_with fail
  refine (HPT.out w5).mono ?_
  rintro e w6 ⟨rfl, hb6⟩
  obtain ⟨H2, Wa2, W7, hH2, hWa2, hW7, HTH2, HROW7, HB7, HS7⟩ := arr_place (w := w6) 23 X hlT
  have HW7 := Lib.hid hW7
  clear hW7
  go_wp2_with ((with_reducible (refine wpList_store_mid rfl _ _ _ rfl ?_ ?_ ?_ ?_ ?_ ?_ ?_ ?_ ?_)); (exact H2); (exact 0); (exact (b8s X).toArray); (exact rfl); (exact rfl); (exact HTH2.out); (exact HIX.out); (exact all_oneCell_toArray (b8s_one' _)); rw [HW7.out])
  rw [HEE.out]
  refine (HPE.out W7).mono ?_
  rintro e w8 ⟨rfl, hb8⟩
  obtain ⟨H3, Wa3, W9, hH3, hWa3, hW9, HTH3, HROW9, HB9, HS9⟩ := arr_place (w := w8) 23 zeros32 rfl
  have HW9 := Lib.hid hW9
  have hb59 := ext_trans hb6 (ext_trans HB7.out (ext_trans hb8 HB9.out))
  have hrx := (range_rd (range_of_row HROW7.out)).below (ext_trans hb8 HB9.out)
  have hri := (range_rd (range_of_row HR.out)).below (ext_trans HB5.out hb59)
  have HRX := Lib.hid hrx
  have HRI := Lib.hid hri
  have HB59 := Lib.hid (ext_trans HB5.out hb59)
  have HJX : Hid ((Try.prog.info? 23).map (·.size) = some (b8s X).length) := Lib.hid (by rw [b8s_length, hlT]; exact info_id)
  have HJI : Hid ((Try.prog.info? 23).map (·.size) = some (b8s id).length) := Lib.hid (by rw [b8s_length, hid]; exact info_id)
  clear hW9 hb59 hrx hri hb6 hb8 hWa2 hH2 HROW7 HROW4
  go_wp2_with ((with_reducible (refine wpList_store_mid rfl _ _ _ rfl ?_ ?_ ?_ ?_ ?_ ?_ ?_ ?_ ?_)); (exact H3); (exact 0); (exact (b8s zeros32).toArray); (exact rfl); (exact rfl); (exact HTH3.out); (exact HIZ.out); (exact all_oneCell_toArray (b8s_one' _)); rw [HW9.out])
  clear hWa3 hH3 hWa hH hne
  cases b with
  | false =>
    have hXz := HBAD.out rfl
    have heq : ∀ w : World, (binOp .eql 23 (.agg (b8s X).toArray) (.agg #[Value.int .u8 0, Value.int .u8 0, Value.int .u8 0, Value.int .u8 0, Value.int .u8 0, Value.int .u8 0, Value.int .u8 0, Value.int .u8 0, Value.int .u8 0, Value.int .u8 0, Value.int .u8 0, Value.int .u8 0, Value.int .u8 0, Value.int .u8 0, Value.int .u8 0, Value.int .u8 0, Value.int .u8 0, Value.int .u8 0, Value.int .u8 0, Value.int .u8 0, Value.int .u8 0, Value.int .u8 0, Value.int .u8 0, Value.int .u8 0, Value.int .u8 0, Value.int .u8 0, Value.int .u8 0, Value.int .u8 0, Value.int .u8 0, Value.int .u8 0, Value.int .u8 0, Value.int .u8 0])).run Try.prog w = .ok (.bool true) w := by
      intro w
      have := run_eql_ids (P := Try.prog) (t := 23) (e := 5) (n := 32) Try.underlying23 Try.underlying5 (by kernel_rfl) (by kernel_rfl) (by kernel_rfl) zero32 zero32 rfl rfl w
      rw [hXz]
      exact this.trans (by simp)
    clear hXz
    refine wp_region_sched (fun w' => w'.rangeAt H2 0 (b8s X) ∧ w'.rangeAt w.heap.size 0 (b8s id)) [(true, 0), (true, 1), (true, 2), (true, 3), (true, 4), (true, 5), (true, 6), (true, 7), (true, 8), (true, 9), (true, 10), (true, 12), (false, 11), (true, 13), (true, 14), (true, 15), (true, 16), (true, 17), (true, 18), (true, 19), (true, 20), (true, 21), (true, 22), (true, 23), (true, 24), (true, 25), (true, 26), (true, 27)] (by kernel_rfl) (by kernel_rfl) rfl (by kernel_rfl) ⟨rd_range HRX.out.drew, rd_range HRI.out.drew⟩ ?_
    (repeat (first | (refine wpS_pass _ rfl (by rfl) ?_; simp only [Act.put, List.getElem_toArray, List.getElem_cons_zero, List.getElem_cons_succ, List.setIfInBounds_toArray, List.set_cons_zero, List.set_cons_succ]) | (refine wpS_take _ ?_ rfl (by rfl) ?_ ?_; rotate_left; (focus (intro w' hS'; (try dsimp only at hS'); (repeat (have hS1 := hS'.1; replace hS' := hS'.2)); go_simp; (try with_reducible rfl); done)); simp only [Act.put, List.getElem_toArray, List.getElem_cons_zero, List.getElem_cons_succ, List.setIfInBounds_toArray, List.set_cons_zero, List.set_cons_succ])))
    refine wpS_load _ rfl (by rfl) _ _ rfl _ _ rfl (b8s X) _ (fun w' hS' => hS'.1) Try.underlying23 rfl HJX.out ?_
    simp only [Act.put, List.getElem_toArray, List.getElem_cons_zero, List.getElem_cons_succ, List.setIfInBounds_toArray, List.set_cons_zero, List.set_cons_succ]
    (repeat (first | (refine wpS_pass _ rfl (by rfl) ?_; simp only [Act.put, List.getElem_toArray, List.getElem_cons_zero, List.getElem_cons_succ, List.setIfInBounds_toArray, List.set_cons_zero, List.set_cons_succ]) | (refine wpS_take _ ?_ rfl (by rfl) ?_ ?_; rotate_left; (focus (intro w' hS'; (try dsimp only at hS'); (repeat (have hS1 := hS'.1; replace hS' := hS'.2)); go_simp; (try with_reducible rfl); done)); simp only [Act.put, List.getElem_toArray, List.getElem_cons_zero, List.getElem_cons_succ, List.setIfInBounds_toArray, List.set_cons_zero, List.set_cons_succ])))
    refine wpS_skip _ rfl (by rfl) ⟨rd_range HRX.out.drew, rd_range HRI.out.drew⟩ ?_
    simp only [Act.put, List.getElem_toArray, List.getElem_cons_zero, List.getElem_cons_succ, List.setIfInBounds_toArray, List.set_cons_zero, List.set_cons_succ]
    (repeat (first | (refine wpS_pass _ rfl (by rfl) ?_; simp only [Act.put, List.getElem_toArray, List.getElem_cons_zero, List.getElem_cons_succ, List.setIfInBounds_toArray, List.set_cons_zero, List.set_cons_succ]) | (refine wpS_take _ ?_ rfl (by rfl) ?_ ?_; rotate_left; (focus (intro w' hS'; (try dsimp only at hS'); (repeat (have hS1 := hS'.1; replace hS' := hS'.2)); go_simp; (try with_reducible rfl); done)); simp only [Act.put, List.getElem_toArray, List.getElem_cons_zero, List.getElem_cons_succ, List.setIfInBounds_toArray, List.set_cons_zero, List.set_cons_succ])))
    refine wpS_done ?_
    go_wp2_with fail
    go_ret
    exact ⟨rfl, ext_trans HB.out HB59.out.drew⟩
  | true =>
    have hhX := HOK.out rfl
    have hxT : (⟨(hexL X).toArray⟩ : ByteArray) = T := by
      rw [hhX]
    have hh := fun w => hex_any X hlT w
    rw [hxT] at hh
    have HHX := Lib.hid hh
    have hil : i < (hexL id).length := by rw [hexL_len, hid]; omega
    have hxi := fun w => index_str (P := Try.prog) (t := 9) (s := S) (c := (hexL id)[i]) i .i64 w Try.underlying9 (by
      have h1 : S[i]? = S.data.toList[i]? := by
        rw [getElem?_pos S i (by omega)]
        have h2 : i < S.data.toList.length := by rw [size_toList]; omega
        rw [List.getElem?_eq_getElem h2]
        rfl
      rw [h1, HSL.out, List.getElem?_eq_getElem hil])
    obtain ⟨v, hv1, hv2⟩ : ∃ v : Bool, decide (X = id) = v ∧ ((c.toNat : Int) == ((hexL id)[i].toNat : Int)) = v := by
      refine ⟨_, rfl, ?_⟩
      have hiff : X = id ↔ c = (hexL id)[i] := by
        rw [← HSAME.out, ← hhX]
        constructor
        · rintro rfl; rfl
        · exact hexL_inj
      rw [Bool.eq_iff_iff, beq_iff_eq, decide_eq_true_eq, u8_cast_inj]
      exact hiff.symm
    have heq : ∀ w : World, (binOp .eql 23 (.agg (b8s X).toArray) (.agg (b8s id).toArray)).run Try.prog w = .ok (.bool v) w := by
      intro w
      rw [run_eql_ids (P := Try.prog) (t := 23) (e := 5) (n := 32) Try.underlying23 Try.underlying5 (by kernel_rfl) (by kernel_rfl) (by kernel_rfl) X id hlT hid w, hv1]
    generalize (hexL id)[i] = d at *
    clear hhX hxT hh hv1
    cases v
    all_goals
      refine wp_region_sched (fun w' => w'.rangeAt H2 0 (b8s X) ∧ w'.rangeAt w.heap.size 0 (b8s id)) [(true, 0), (true, 1), (true, 2), (true, 3), (true, 4), (true, 5), (true, 6), (true, 7), (true, 8), (true, 9), (true, 10), (true, 12), (false, 11), (true, 13), (true, 14), (true, 15), (true, 16), (true, 17), (true, 18), (true, 19), (true, 20), (true, 21), (true, 22), (true, 23), (true, 24), (true, 25), (true, 26), (true, 27)] (by kernel_rfl) (by kernel_rfl) rfl (by kernel_rfl) ⟨rd_range HRX.out.drew, rd_range HRI.out.drew⟩ ?_
      (repeat (first | (refine wpS_pass _ rfl (by rfl) ?_; simp only [Act.put, List.getElem_toArray, List.getElem_cons_zero, List.getElem_cons_succ, List.setIfInBounds_toArray, List.set_cons_zero, List.set_cons_succ]) | (refine wpS_take _ ?_ rfl (by rfl) ?_ ?_; rotate_left; (focus (intro w' hS'; (try dsimp only at hS'); (repeat (have hS1 := hS'.1; replace hS' := hS'.2)); go_simp; (try with_reducible rfl); done)); simp only [Act.put, List.getElem_toArray, List.getElem_cons_zero, List.getElem_cons_succ, List.setIfInBounds_toArray, List.set_cons_zero, List.set_cons_succ])))
      refine wpS_load _ rfl (by rfl) _ _ rfl _ _ rfl (b8s X) _ (fun w' hS' => hS'.1) Try.underlying23 rfl HJX.out ?_
      simp only [Act.put, List.getElem_toArray, List.getElem_cons_zero, List.getElem_cons_succ, List.setIfInBounds_toArray, List.set_cons_zero, List.set_cons_succ]
      (repeat (first | (refine wpS_pass _ rfl (by rfl) ?_; simp only [Act.put, List.getElem_toArray, List.getElem_cons_zero, List.getElem_cons_succ, List.setIfInBounds_toArray, List.set_cons_zero, List.set_cons_succ]) | (refine wpS_take _ ?_ rfl (by rfl) ?_ ?_; rotate_left; (focus (intro w' hS'; (try dsimp only at hS'); (repeat (have hS1 := hS'.1; replace hS' := hS'.2)); go_simp; (try with_reducible rfl); done)); simp only [Act.put, List.getElem_toArray, List.getElem_cons_zero, List.getElem_cons_succ, List.setIfInBounds_toArray, List.set_cons_zero, List.set_cons_succ])))
      refine wpS_do _ rfl (by rfl) (fun K hK => ?_)
      go_simp
      refine (HHX.out W9.drew).mono ?_
      rintro e w10 ⟨rfl, hb10⟩
      have hb910 : Below W9.heap.size W9 w10 := ext_trans (b := W9.drew) (Below.refl _ _).drew hb10
      refine hK.out _ _ ⟨rd_range (HRX.out.below hb910), rd_range (HRI.out.below hb910)⟩ (fun hS => ?_)
      have HB10 := Lib.hid hb910
      clear hK hS hb910 hb10
      (repeat (first | (refine wpS_pass _ rfl (by rfl) ?_; simp only [Act.put, List.getElem_toArray, List.getElem_cons_zero, List.getElem_cons_succ, List.setIfInBounds_toArray, List.set_cons_zero, List.set_cons_succ]) | (refine wpS_take _ ?_ rfl (by rfl) ?_ ?_; rotate_left; (focus (intro w' hS'; (try dsimp only at hS'); (repeat (have hS1 := hS'.1; replace hS' := hS'.2)); go_simp; (try with_reducible rfl); done)); simp only [Act.put, List.getElem_toArray, List.getElem_cons_zero, List.getElem_cons_succ, List.setIfInBounds_toArray, List.set_cons_zero, List.set_cons_succ])))
      refine wpS_load _ rfl (by rfl) _ _ rfl _ _ rfl (b8s X) _ (fun w' hS' => hS'.1) Try.underlying23 rfl HJX.out ?_
      simp only [Act.put, List.getElem_toArray, List.getElem_cons_zero, List.getElem_cons_succ, List.setIfInBounds_toArray, List.set_cons_zero, List.set_cons_succ]
      refine wpS_load _ rfl (by rfl) _ _ rfl _ _ rfl (b8s id) _ (fun w' hS' => hS'.2) Try.underlying23 rfl HJI.out ?_
      simp only [Act.put, List.getElem_toArray, List.getElem_cons_zero, List.getElem_cons_succ, List.setIfInBounds_toArray, List.set_cons_zero, List.set_cons_succ]
      (first | (refine wpS_pass _ rfl (by rfl) ?_; simp only [Act.put, List.getElem_toArray, List.getElem_cons_zero, List.getElem_cons_succ, List.setIfInBounds_toArray, List.set_cons_zero, List.set_cons_succ]) | (refine wpS_take _ ?_ rfl (by rfl) ?_ ?_; rotate_left; (focus (intro w' hS'; (try dsimp only at hS'); (repeat (have hS1 := hS'.1; replace hS' := hS'.2)); go_simp; (try with_reducible rfl); done)); simp only [Act.put, List.getElem_toArray, List.getElem_cons_zero, List.getElem_cons_succ, List.setIfInBounds_toArray, List.set_cons_zero, List.set_cons_succ]))
      (first | (refine wpS_pass _ rfl (by rfl) ?_; simp only [Act.put, List.getElem_toArray, List.getElem_cons_zero, List.getElem_cons_succ, List.setIfInBounds_toArray, List.set_cons_zero, List.set_cons_succ]) | (refine wpS_take _ ?_ rfl (by rfl) ?_ ?_; rotate_left; (focus (intro w' hS'; (try dsimp only at hS'); (repeat (have hS1 := hS'.1; replace hS' := hS'.2)); go_simp; (try with_reducible rfl); done)); simp only [Act.put, List.getElem_toArray, List.getElem_cons_zero, List.getElem_cons_succ, List.setIfInBounds_toArray, List.set_cons_zero, List.set_cons_succ]))
      (first | (refine wpS_pass _ rfl (by rfl) ?_; simp only [Act.put, List.getElem_toArray, List.getElem_cons_zero, List.getElem_cons_succ, List.setIfInBounds_toArray, List.set_cons_zero, List.set_cons_succ]) | (refine wpS_take _ ?_ rfl (by rfl) ?_ ?_; rotate_left; (focus (intro w' hS'; (try dsimp only at hS'); (repeat (have hS1 := hS'.1; replace hS' := hS'.2)); go_simp; (try with_reducible rfl); done)); simp only [Act.put, List.getElem_toArray, List.getElem_cons_zero, List.getElem_cons_succ, List.setIfInBounds_toArray, List.set_cons_zero, List.set_cons_succ]))
      (first | (refine wpS_pass _ rfl (by rfl) ?_; simp only [Act.put, List.getElem_toArray, List.getElem_cons_zero, List.getElem_cons_succ, List.setIfInBounds_toArray, List.set_cons_zero, List.set_cons_succ]) | (refine wpS_take _ ?_ rfl (by rfl) ?_ ?_; rotate_left; (focus (intro w' hS'; (try dsimp only at hS'); (repeat (have hS1 := hS'.1; replace hS' := hS'.2)); go_simp; (try with_reducible rfl); done)); simp only [Act.put, List.getElem_toArray, List.getElem_cons_zero, List.getElem_cons_succ, List.setIfInBounds_toArray, List.set_cons_zero, List.set_cons_succ]))
      refine wpS_take _ _ rfl (by rfl) (fun w' hS' => exec_index _ _ _ rfl _ _ _ rfl rfl (hxi w')) ?_
      simp only [Act.put, List.getElem_toArray, List.getElem_cons_zero, List.getElem_cons_succ, List.setIfInBounds_toArray, List.set_cons_zero, List.set_cons_succ]
      clear hxi
      (repeat (first | (refine wpS_pass _ rfl (by rfl) ?_; simp only [Act.put, List.getElem_toArray, List.getElem_cons_zero, List.getElem_cons_succ, List.setIfInBounds_toArray, List.set_cons_zero, List.set_cons_succ]) | (refine wpS_take _ ?_ rfl (by rfl) ?_ ?_; rotate_left; (focus (intro w' hS'; (try dsimp only at hS'); (repeat (have hS1 := hS'.1; replace hS' := hS'.2)); go_simp; (try with_reducible rfl); done)); simp only [Act.put, List.getElem_toArray, List.getElem_cons_zero, List.getElem_cons_succ, List.setIfInBounds_toArray, List.set_cons_zero, List.set_cons_succ])))
      refine wpS_done ?_
      go_wp2_with fail
      go_ret
      exact ⟨rfl, ext_trans HB.out (ext_trans HB59.out HB10.out)⟩
end Go.Proofs.Ytkiggfahcakdeaa
