
/- Refs: split of any bytes; a file that is written anew. -/

import Derived.Test.YtelbofikcpchiaaGreatRf30

import Derived.Test.YtelbofikcpchiaaGreatDk14

namespace Go.Proofs.YtelbofikcpchiaaGreat

set_option linter.unusedVariables false

set_option linter.unusedSimpArgs false

set_option linter.unusedSectionVars false

open Go.RowKit

theorem split_any (A : Option Addr) (n c : Nat) (bs : List UInt8) (hn : n = bs.length) (hnc : n ≤ c) (w : World) (hr : Rd w A (b8s bs)) (hm : bs.length ≤ 1099511627776) :
    Calls Tryz.prog 29 #[.slice A n c] w fun e w' => ∃ Ai ci, e = .returned (.tuple #[.agg (txC Ai (splitP bs).1.us.length ci (splitP bs).1).toArray, .int .i64 ((splitP bs).2.1 : Int), .bool (splitP bs).2.2]) ∧ Rd w' Ai (upsC (splitP bs).1.us) ∧ (∀ a, Ai = some a → w.heap.size ≤ a.block) ∧ Below w.heap.size w w' := by
  cases hf : (getFour (getNum (some bs) 1048576).2).2 with
  | none =>
    have e : splitP bs = (t0, 0, false) := by
      unfold splitP
      simp only [hf]
      rfl
    rw [e]
    refine (split_cut A n c bs hn w hr (by omega) (by rw [hf]; rfl)).mono ?_
    rintro e' w' ⟨rfl, hb⟩
    exact ⟨none, 0, rfl, Rd.nil, (fun a ha => by cases ha), hb⟩
  | some rest =>
    by_cases hl : rest.length < (getNum (some bs) 1048576).1
    · have e : splitP bs = (t0, 0, false) := by
        unfold splitP
        simp only [hf]
        rw [if_pos hl]
        rfl
      rw [e]
      refine (split_short A n c bs hn w hr (by omega) (by rw [hf]; rfl) (by rw [hf]; exact hl)).mono ?_
      rintro e' w' ⟨rfl, hb⟩
      exact ⟨none, 0, rfl, Rd.nil, (fun a ha => by cases ha), hb⟩
    · exact split_full A n c bs rest hn hnc w hr hm hf hl

set_option maxRecDepth 100000 in
set_option maxHeartbeats 4000000 in
theorem index_not (A : Option Addr) (n c : Nat) (xs : List ByteArray) (S : ByteArray) (hn : xs.length = n) (hnm : n ≤ 1000000) (w : World) (hr : Rd w A (xs.map Value.string)) (hx : ∀ x ∈ xs, S ≠ x) :
    Calls Tryz.prog 101 #[.slice A n c, .string S] w fun e w' => e = .returned (.int .i64 (-1)) ∧ w' = w := by
  have HN := Lib.hid hn
  have HR := Lib.hid hr
  have HX := Lib.hid hx
  clear hn hr hx
  go_enter Tryz.func101, Tryz.ntmps101
  go_wp2_with fail
  go_loopg [8] (n * 1) (fun gk_ iv wr => ∃ (i : Nat), i ≤ n ∧ gk_ = n - i ∧ iv = .int .i64 (i : Int) ∧ Hid (wr = w))
  case atStart => exact ⟨0, by omega, by omega, rfl, Lib.hid rfl⟩
  case round =>
  obtain ⟨i, hi, rfl, rfl, HW⟩ := hrel
  obtain rfl := HW.out
  clear HW
  by_cases hlt : i < n
  · have i1 : (i : Int) < (n : Int) := by omega
    have hil : i < xs.length := by rw [HN.out]; exact hlt
    obtain ⟨b, o, hA, hcell⟩ := HR.out.all (by rw [List.length_map, HN.out]; omega)
    obtain ⟨X, hX⟩ : ∃ X, xs[i] = X := ⟨_, rfl⟩
    have c1 : wr.cell? ⟨b, o + i, none⟩ = some (.string X) := hcell i _ (by rw [List.getElem?_map, List.getElem?_eq_getElem hil, hX]; rfl)
    have hne : S ≠ X := HX.out X (by rw [← hX]; exact List.getElem_mem hil)
    have z1 : (S.toList == X.toList) = false := by
      rw [beq_eq_false_iff_ne]
      intro e
      apply hne
      rw [tl_data, tl_data] at e
      cases S
      cases X
      simp only [ByteArray.mk.injEq]
      exact Array.toList_inj.1 e
    subst hA
    clear hcell hX hil hne
    go_wp2_with fail
    go_roundg (n - (i + 1))
    case measure => omega
    case rel => exact ⟨i + 1, by omega, rfl, by first | rfl | exact congrArg (Value.int .i64) (by omega) | go_num, Lib.hid rfl⟩
  · obtain rfl : i = n := by omega
    go_wp2_with fail
    go_ret
    exact ⟨rfl, rfl⟩
set_option maxRecDepth 100000 in
theorem contains_not (A : Option Addr) (n c : Nat) (xs : List ByteArray) (S : ByteArray) (hn : xs.length = n) (hnm : n ≤ 1000000) (w : World) (hr : Rd w A (xs.map Value.string)) (hx : ∀ x ∈ xs, S ≠ x) :
    Calls Tryz.prog 72 #[.slice A n c, .string S] w fun e w' => e = .returned (.bool false) ∧ w' = w := by
  have HC := Lib.hid (index_not A n c xs S hn hnm w hr hx)
  clear hn hr hx
  go_enter Tryz.func72, Tryz.ntmps72
  go_wp2_with fail
  refine HC.out.mono ?_
  rintro e w2 ⟨rfl, rfl⟩
  go_wp2_with fail
  go_ret
  exact ⟨rfl, rfl⟩

def tmpB : List UInt8 := [114, 101, 102, 115, 46, 116, 109, 112]
set_option maxRecDepth 100000 in
set_option maxHeartbeats 8000000 in
/-- the file written anew: no file of that name was there -/
theorem renew_new {N g K L f : Nat} {m m1 m2 m3 m4 m5 : DM} {d : DA} {w : World} {A : Option Addr} {bs : List UInt8} {n c : Nat} (h : DiskIn N w g m d) (hf : Fit K L m) (hK : K < 999990) (hL : L ≤ 1000000000000)
    (hn : n = bs.length) (hr : Rd w A (b8s bs)) (hA : bs ≠ [] → ∀ a, A = some a → ¬ foot g d a.block) (hl : bs.length ≤ 1000000000)
    (h0 : m.now = [(refsB, f)]) (h1 : createM m tmpB = (m1, 0)) (h2 : appendM m1 tmpB bs = (m2, 0)) (h3 : syncM m2 tmpB = (m3, 0)) (h4 : renameM m3 tmpB refsB = (m4, 0)) (h5 : flushM m4 = (m5, 0)) :
    Calls Tryz.prog 32 #[.pointer (some ⟨g, 0, none⟩), .slice A n c] w fun e w' => e = .returned (.int .i64 0) ∧ ∃ d', Aft N g w w' m5 d d' ∧ Fit (K + 2) (L + bs.length) m5 := by
  have HD := Lib.hid h
  have HF := Lib.hid hf
  have HN := Lib.hid hn
  have HR := Lib.hid hr
  have HA := Lib.hid hA
  have H0 := Lib.hid h0
  have H1 := Lib.hid h1
  have H2 := Lib.hid h2
  have H3 := Lib.hid h3
  have H4 := Lib.hid h4
  have H5 := Lib.hid h5
  clear h hf hn hr hA h0 h1 h2 h3 h4 h5
  go_enter Tryz.func32, Tryz.ntmps32
  go_wp2_with fail
  refine (names_st HD.out HF.out (by omega) (by omega) H0.out).mono ?_
  rintro e w1 ⟨v, rfl, hov, hb1⟩
  obtain ⟨Av, cv, rfl, _⟩ := own_slice hov
  have A1 := Lib.hid (Aft.below HD.out hb1)
  have HRV : Hid (Rd w1 Av ([⟨#[114, 101, 102, 115]⟩].map Value.string)) := Lib.hid (own_rd hov)
  clear hov hb1
  rw [show List.length [(refsB, f)] = 1 from rfl]
  go_wp2_with fail
  refine (contains_not Av 1 cv [⟨#[114, 101, 102, 115]⟩] ⟨#[114, 101, 102, 115, 46, 116, 109, 112]⟩ rfl (by decide) w1 HRV.out (by decide)).mono ?_
  rintro e w2 ⟨rfl, rfl⟩
  go_wp2_with fail
  refine (create_st (S := ⟨#[114, 101, 102, 115, 46, 116, 109, 112]⟩) A1.out.disk HF.out (by omega) (by omega) (by decide) H1.out).mono ?_
  rintro e w3 ⟨rfl, d3, ha, hf3⟩
  have A3 := Lib.hid (A1.out.trans ha)
  have F3 := Lib.hid hf3
  clear ha hf3
  have HR3 : Hid (Rd w3 A (b8s bs)) := Lib.hid (by
    by_cases he : bs = []
    · rw [he]; exact Rd.nil
    · exact HR.out.keep fun ad hA hlt => A3.out.frm.block _ hlt (HA.out he ad hA))
  have HA3 : Hid (bs ≠ [] → ∀ a, A = some a → ¬ foot g d3 a.block) := Lib.hid (fun he a ha hfo => by
    rcases A3.out.ext _ hfo with h9 | h9
    · exact HA.out he a ha h9
    · obtain ⟨b, o, e, hc⟩ := HR.out.at_ 0 (by rw [b8s_length]; exact List.length_pos_iff.2 he)
      rw [e] at ha
      cases ha
      have h8 := World.block_lt_of_cell? _ _ hc
      dsimp only at h9 h8
      omega)
  go_wp2_with fail
  refine (append_st (S := ⟨#[114, 101, 102, 115, 46, 116, 109, 112]⟩) A3.out.disk F3.out (by omega) (by omega) (by decide) HN.out HR3.out HA3.out (by omega) H2.out).mono ?_
  rintro e w4 ⟨rfl, d4, ha, hf4⟩
  have A4 := Lib.hid (A3.out.trans ha)
  have F4 := Lib.hid hf4
  clear ha hf4
  go_wp2_with fail
  refine (sync_st (S := ⟨#[114, 101, 102, 115, 46, 116, 109, 112]⟩) A4.out.disk F4.out (by omega) (by omega) (by decide) H3.out).mono ?_
  rintro e w5 ⟨rfl, d5, ha, hf5⟩
  have A5 := Lib.hid (A4.out.trans ha)
  have F5 := Lib.hid hf5
  clear ha hf5
  go_wp2_with fail
  refine (rename_st (S := ⟨#[114, 101, 102, 115, 46, 116, 109, 112]⟩) (T := ⟨#[114, 101, 102, 115]⟩) A5.out.disk F5.out (by omega) (by omega) (by decide) (by decide) H4.out).mono ?_
  rintro e w6 ⟨rfl, d6, ha, hf6⟩
  have A6 := Lib.hid (A5.out.trans ha)
  have F6 := Lib.hid hf6
  clear ha hf6
  go_wp2_with fail
  refine (flush_st A6.out.disk F6.out (by omega) (by omega) H5.out).mono ?_
  rintro e w7 ⟨rfl, d7, ha, hf7⟩
  have A7 := Lib.hid (A6.out.trans ha)
  have F7 := Lib.hid hf7
  clear ha hf7
  go_wp2_with fail
  go_ret
  exact ⟨rfl, d7, A7.out, F7.out⟩
end Go.Proofs.YtelbofikcpchiaaGreat
