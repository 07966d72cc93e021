
/- The document's disk: New, Read; what is wrong with a step. -/

import Derived.Test.YtpmifpblamjclaaDp4

namespace Go.Proofs.Ytpmifpblamjclaa

set_option linter.unusedVariables false

set_option linter.unusedSimpArgs false

set_option linter.unusedSectionVars false

open Go.RowKit

theorem info_dk7 {a b c d e f g : Value} : (Try.prog.info? 50).map (·.size) = some (#[a, b, c, d, e, f, g] : Array Value).size := by kernel_rfl
theorem cells7 {A B C D : Option Addr} {a b c d a' b' c' d' : Nat} {x y : Int} {z : Bool} : (#[.slice A a a', .slice B b b', .slice C c c', .slice D d d', .int .i64 x, .int .i64 y, .bool z] : Array Value).all (·.oneCell') = true := by simp [Value.oneCell']

theorem RdF.wide {F G : Nat → Prop} {w : World} {A : Option Addr} {cs : List Value} (h : RdF F w A cs) (hG : ∀ b, G b → F b ∨ w.heap.size ≤ b) : RdF G w A cs := by
  refine ⟨h.1, fun hn a ha hg => ?_⟩
  rcases hG _ hg with h1 | h1
  · exact h.2 hn a ha h1
  · obtain ⟨b, o, hA, _⟩ := h.1.all (List.length_pos_iff.2 hn)
    rw [hA] at ha
    cases ha
    have hr := h.1
    rw [hA] at hr
    have := hr.lt (List.length_pos_iff.2 hn)
    dsimp only at h1
    omega
theorem RdF.narrow {F G : Nat → Prop} {w : World} {A : Option Addr} {cs : List Value} (h : RdF F w A cs) (hG : ∀ b, G b → F b) : RdF G w A cs := ⟨h.1, fun hn a ha hg => h.2 hn a ha (hG _ hg)⟩
theorem RdF.frm {F G : Nat → Prop} {w w' : World} {A : Option Addr} {cs : List Value} (h : RdF F w A cs) (hf : Frm G w w') (hG : ∀ b, G b → F b) : RdF F w' A cs := by
  by_cases hc : cs = []
  · rw [hc]; exact RdF.nil
  · refine ⟨h.1.keep (fun ad e hl => hf.block _ hl (fun hg => h.2 hc ad e (hG _ hg))), h.2⟩
section

variable {F G : Nat → Prop} {w w' : World} {R : RA} {m : DM}

theorem RIn.wide (h : RIn F w R m) (hG : ∀ b, G b → F b ∨ w.heap.size ≤ b) : RIn G w R m :=
  ⟨h.fm, h.rf.wide hG, fun p hp => ⟨(h.rb p hp).1.wide hG, (h.rb p hp).2⟩, h.rn.wide hG, h.rs.wide hG, h.rt.wide hG⟩
theorem RIn.narrow (h : RIn F w R m) (hG : ∀ b, G b → F b) : RIn G w R m :=
  ⟨h.fm, h.rf.narrow hG, fun p hp => ⟨(h.rb p hp).1.narrow hG, (h.rb p hp).2⟩, h.rn.narrow hG, h.rs.narrow hG, h.rt.narrow hG⟩
theorem RIn.frm (h : RIn F w R m) (hf : Frm G w w') (hG : ∀ b, G b → F b) : RIn F w' R m :=
  ⟨h.fm, h.rf.frm hf hG, fun p hp => ⟨(h.rb p hp).1.frm hf hG, (h.rb p hp).2⟩, h.rn.frm hf hG, h.rs.frm hf hG, h.rt.frm hf hG⟩
end

theorem fresh_rdf {F : Nat → Prop} {w w' : World} {A : Option Addr} {cs : List Value} (h : Rd w' A cs) (hf : ∀ a, A = some a → w.heap.size ≤ a.block) (hF : ∀ b, F b → b < w.heap.size) : RdF F w' A cs := RdF.fresh h hf hF

def R0 : RA := ⟨[], none, 0, none, 0, none, 0, none, 0⟩
theorem rin_new (F : Nat → Prop) (w : World) (n : Int) : RIn F w R0 (newM n) := ⟨rfl, RdF.nil, fun p hp => (by cases hp), RdF.nil, RdF.nil, RdF.nil⟩

set_option maxHeartbeats 4000000 in
theorem rnew_any (room : Int) (w : World) : Calls Try.prog 23 #[.int .i64 room] w fun e w' => e = .returned (R0.val (newM room)) ∧ Below w.heap.size w w' := by
  obtain ⟨q, hq⟩ : ∃ q : Int, ((newM room).most : Int) = q := ⟨_, rfl⟩
  have hv : R0.val (newM room) = .agg #[.slice none 0 0, .slice none 0 0, .slice none 0 0, .slice none 0 0, .int .i64 q, .int .i64 0, .bool false] := by rw [← hq]; rfl
  rw [hv]
  obtain ⟨Wa, W5, hWa0, hW5, HTH, HRS, HB5⟩ := row_place (w := w) 50 [.slice none 0 0, .slice none 0 0, .slice none 0 0, .slice none 0 0, .int .i64 0, .int .i64 0, .bool false] [.slice none 0 0, .slice none 0 0, .slice none 0 0, .slice none 0 0, .int .i64 q, .int .i64 0, .bool false] rfl
  have hWa : w.alloc (.cells #[.slice none 0 0, .slice none 0 0, .slice none 0 0, .slice none 0 0, .int .i64 0, .int .i64 0, .bool false] 50) = Wa := hWa0
  clear hWa0
  have HW5 := Lib.hid hW5
  obtain ⟨g, hg⟩ : ∃ g, w.heap.size = g := ⟨_, rfl⟩
  rw [hg] at HTH HRS HW5 HB5 ⊢
  clear hW5 hv
  by_cases hr : room < 0
  · obtain rfl : q = 0 := by rw [← hq]; show (((max room 0).toNat : Nat) : Int) = 0; omega
    clear hq
    go_enter Try.func23, Try.ntmps23
    go_wp2_with ((with_reducible (refine wpList_store_mid rfl _ _ _ rfl ?_ ?_ ?_ ?_ ?_ ?_ ?_ ?_ ?_)); (exact g); (exact 0); (exact ([.slice none 0 0, .slice none 0 0, .slice none 0 0, .slice none 0 0, .int .i64 0, .int .i64 0, .bool false]).toArray); (exact rfl); (exact rfl); (exact HTH.out); (exact info_dk7); (exact cells7); rw [HW5.out])
    exact bodyPost_ret (results_row1 rfl _ _ _ _ _ _ _ rfl HRS.out Try.underlying50 rfl info_dk7) rfl ⟨rfl, HB5.out⟩
  · obtain rfl : q = room := by rw [← hq]; show (((max room 0).toNat : Nat) : Int) = room; omega
    clear hq
    go_enter Try.func23, Try.ntmps23
    go_wp2_with ((with_reducible (refine wpList_store_mid rfl _ _ _ rfl ?_ ?_ ?_ ?_ ?_ ?_ ?_ ?_ ?_)); (exact g); (exact 0); (exact ([.slice none 0 0, .slice none 0 0, .slice none 0 0, .slice none 0 0, .int .i64 q, .int .i64 0, .bool false]).toArray); (exact rfl); (exact rfl); (exact HTH.out); (exact info_dk7); (exact cells7); rw [HW5.out])
    exact bodyPost_ret (results_row1 rfl _ _ _ _ _ _ _ rfl HRS.out Try.underlying50 rfl info_dk7) rfl ⟨rfl, HB5.out⟩

theorem findI_none {ns : NM} {s : List UInt8} (h : findN ns s = none) : findI ns s = -1 := by unfold findI; rw [h]
theorem findI_some {ns : NM} {s : List UInt8} {f : Nat} (h : findN ns s = some f) : findI ns s = (f : Int) := by unfold findI; rw [h]
theorem findN_mem {ns : NM} {s : List UInt8} {f : Nat} (h : findN ns s = some f) : ∃ p ∈ ns, p.2 = f := by
  unfold findN at h
  obtain ⟨p, hp, rfl⟩ := Option.map_eq_some_iff.1 h
  exact ⟨p, List.mem_of_find?_eq_some hp, rfl⟩

set_option maxRecDepth 100000 in
set_option maxHeartbeats 4000000 in
theorem rread_any {K L : Nat} {F : Nat → Prop} (R : RA) (m : DM) (S : ByteArray) (w : World) (h : RIn F w R m) (hf : Fit K L m) (hK : K ≤ 1000) (bs : List UInt8) (e' : Int) (he : readM m S.data.toList = (bs, e')) :
    Calls Try.prog 28 #[R.val m, .string S] w fun e w' => ∃ A n c, e = .returned (.tuple #[.slice A n c, .int .i64 e']) ∧ n = bs.length ∧ Rd w' A (b8s bs) ∧ Below w.heap.size w w' := by
  have H := Lib.hid h
  have HF := Lib.hid hf
  obtain ⟨nf, hnf⟩ : ∃ n, m.files.length = n := ⟨_, rfl⟩
  obtain ⟨n, hn⟩ : ∃ n, m.now.length = n := ⟨_, rfl⟩
  have hnk : n ≤ 1000 := by have := hf.now; omega
  have HN := Lib.hid hn
  have HNF := Lib.hid hnf
  unfold RA.val RA.row
  rw [hn, hnf]
  obtain ⟨fa, hfa⟩ : ∃ n, R.fa = n := ⟨_, rfl⟩
  obtain ⟨na, hna⟩ : ∃ n, R.na = n := ⟨_, rfl⟩
  have HFA := Lib.hid hfa
  have HNA := Lib.hid hna
  rw [hfa, hna]
  obtain ⟨ns, hns⟩ : ∃ n, m.sure.length = n := ⟨_, rfl⟩
  obtain ⟨nt, hnt⟩ : ∃ n, m.turns.length = n := ⟨_, rfl⟩
  obtain ⟨mo, hmo⟩ : ∃ n, m.most = n := ⟨_, rfl⟩
  obtain ⟨fu, hfu⟩ : ∃ n, m.fuse = n := ⟨_, rfl⟩
  obtain ⟨dn, hdn⟩ : ∃ n, m.down = n := ⟨_, rfl⟩
  rw [hns, hnt, hmo, hfu, hdn]
  obtain ⟨W1, hW1⟩ : ∃ W, w.alloc (.cells #[.slice fa nf R.fc, .slice na n R.nc, .slice R.sa ns R.sc, .slice R.ta nt R.tc, .int .i64 (mo : Int), .int .i64 (fu : Int), .bool dn] 50) = W := ⟨_, rfl⟩
  obtain ⟨r1, b1, s1⟩ := new_row hW1
  have c0 : W1.cell? ⟨w.heap.size, 0, none⟩ = some (.slice fa nf R.fc) := row_cell r1 0
  have c1 : W1.cell? ⟨w.heap.size, 1, none⟩ = some (.slice na n R.nc) := row_cell r1 1
  have c6 : W1.cell? ⟨w.heap.size, 6, none⟩ = some (.bool dn) := row_cell r1 6
  have HB1 := Lib.hid b1
  have HDN := Lib.hid hdn
  have HE := Lib.hid he
  have HFND := Lib.hid (rfind_any na m.now n R.nc HN.out (by omega) S W1 (by have := (h.below b1).rn.1; rw [hna] at this; exact this))
  clear h hf hn hnf hns hnt hmo hfu hdn he hfa hna r1 b1 s1
  cases dn with
  | true =>
    have HQ : Hid (bs = [] ∧ e' = 50) := Lib.hid (by
      have h := HE.out
      simp [readM, findM, HDN.out] at h
      exact ⟨h.1, h.2.symm⟩)
    obtain ⟨rfl, rfl⟩ := HQ.out
    go_enter Try.func28, Try.ntmps28
    go_wp2_with fail
    go_ret2
    exact ⟨none, 0, ⟨0, rfl⟩, rfl, Rd.nil, HB1.out⟩
  | false =>
    cases hfn : findN m.now S.data.toList with
    | none =>
      have HQ : Hid (bs = [] ∧ e' = 4) := Lib.hid (by
        have h := HE.out
        simp [readM, findM, HDN.out, hfn] at h
        exact ⟨h.1, h.2.symm⟩)
      obtain ⟨rfl, rfl⟩ := HQ.out
      have HFI := Lib.hid (findI_none hfn)
      rw [HFI.out] at HFND
      clear hfn
      go_enter Try.func28, Try.ntmps28
      go_wp2_with fail
      refine HFND.out.mono ?_
      rintro e w2 ⟨rfl, rfl⟩
      go_wp2_with fail
      go_ret2
      exact ⟨none, 0, 0, rfl, rfl, Rd.nil, HB1.out⟩
    | some f =>
      have HQ : Hid (bs = (fileM m f).b ∧ e' = 0) := Lib.hid (by
        have h := HE.out
        simp [readM, findM, HDN.out, hfn] at h
        exact ⟨h.1.symm, h.2.symm⟩)
      obtain ⟨q, hq, hqf⟩ := findN_mem hfn
      have hfl : f < m.files.length := by have := HF.out.ids.now _ hq; rw [hqf] at this; exact this
      obtain ⟨p, hfp, hmem, hfm, _⟩ := H.out.file hfl
      obtain ⟨b', o', hA', hrow'⟩ := (H.out.below HB1.out).fcell hfp
      have HRB := Lib.hid ((H.out.below HB1.out).rb p hmem).1.1
      have a2 : W1.cell? ⟨b', o' + f * 2, none⟩ = some (.slice p.1.A p.1.bs.length p.1.c) := hrow' 0 _ rfl
      have HBS : Hid (bs = p.1.bs) := Lib.hid (by rw [HQ.out.1, hfm]; rfl)
      obtain rfl := HQ.out.2
      rw [HNF.out] at hfl
      have j1 : (f : Int) < (nf : Int) := by omega
      have j0 : ¬ ((f : Int) < 0) := by omega
      have HFI := Lib.hid (findI_some hfn)
      rw [HFI.out] at HFND
      rw [HFA.out] at hA'
      have HA' := Lib.hid hA'
      rw [hA'] at c0
      rw [hA']
      rw [HA'.out] at hW1
      clear hfn hq hqf hfp hmem hfm hrow' hA' HQ
      go_enter Try.func28, Try.ntmps28
      go_wp2_with fail
      refine HFND.out.mono ?_
      rintro e w2 ⟨rfl, rfl⟩
      go_wp2_with fail
      go_ret2
      exact ⟨_, _, _, rfl, by rw [HBS.out], by rw [HBS.out]; exact HRB.out, HB1.out⟩
end Go.Proofs.Ytpmifpblamjclaa
