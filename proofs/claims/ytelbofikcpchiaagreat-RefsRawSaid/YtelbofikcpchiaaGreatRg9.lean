/- What Open tells, as the document reads it; the steps of renewing; Read with its bounds. -/
import Derived.Test.YtelbofikcpchiaaGreatDp14
import Derived.Test.YtelbofikcpchiaaGreatQT
import Derived.Test.YtelbofikcpchiaaGreatQU
namespace Go.Proofs.YtelbofikcpchiaaGreat
open Go.RowKit
theorem openP_gl : ∀ (f : Nat) (r : RfM) (b : List UInt8) (g : Nat), GL r → GL (openP f r b g).1
 | 0, r, b, g, h => h
 | f + 1, r, b, g, h => by
   simp only [openP]
   by_cases hc : (splitP (b.drop g)).2.2 = false ∨ checkR r (splitP (b.drop g)).1 ≠ 0
   ·rw [if_pos hc]; exact h
   ·rw [if_neg hc]
    exact openP_gl f _ b _ (h.made (Classical.not_not.1 (fun e => hc (.inr e))))
def rnS (X Y : List UInt8) (room : Nat) : Nat → DM
 | 0 => stR X room
 | 1 => ⟨[⟨X, X.length⟩, ⟨[], 0⟩], [(refsB, 0), (tmpB, 1)], [(refsB, 0)], [⟨[], tmpB, 1⟩], room, 0, false⟩
 | 2 => ⟨[⟨X, X.length⟩, ⟨Y, 0⟩], [(refsB, 0), (tmpB, 1)], [(refsB, 0)], [⟨[], tmpB, 1⟩], room, 0, false⟩
 | 3 => ⟨[⟨X, X.length⟩, ⟨Y, Y.length⟩], [(refsB, 0), (tmpB, 1)], [(refsB, 0)], [⟨[], tmpB, 1⟩], room, 0, false⟩
 | 4 => ⟨[⟨X, X.length⟩, ⟨Y, Y.length⟩], [(refsB, 1)], [(refsB, 0)], [⟨[], tmpB, 1⟩, ⟨tmpB, refsB, 1⟩], room, 0, false⟩
 | _ => ⟨[⟨X, X.length⟩, ⟨Y, Y.length⟩], [(refsB, 1)], [(refsB, 1)], [], room, 0, false⟩
set_option linter.unusedSectionVars false
section
variable {X Y : List UInt8} {room : Nat}
theorem rnS_1 : doM (rnS X Y room 0) 1 tmpB [] [] = (rnS X Y room 1, 0) := rfl
theorem rnS_2 (h : X.length + Y.length ≤ room) : doM (rnS X Y room 1) 2 tmpB [] Y = (rnS X Y room 2, 0) := tmp_append h
theorem rnS_3 : doM (rnS X Y room 2) 3 tmpB [] [] = (rnS X Y room 3, 0) := rfl
theorem rnS_4 : doM (rnS X Y room 3) 4 tmpB refsB [] = (rnS X Y room 4, 0) := rfl
theorem rnS_5 : doM (rnS X Y room 4) 6 [] [] [] = (rnS X Y room 5, 0) := rfl
theorem rnS_ne (i : Nat) : ∀ p ∈ (rnS X Y room i).now, p.1 ≠ [] := by
 intro p hp
 match i, hp with
 | 0, hp | 4, hp | 1, hp | 2, hp | 3, hp =>
  simp [rnS, stR] at hp
  first
   | (rcases hp with rfl | rfl <;> decide)
   | (rw [hp]; decide)
 | i + 5, hp =>
   simp [rnS] at hp
   rw [hp]; decide
theorem rnS_fit {K L : Nat} (hf : Fit K L (stR X room)) (h : X.length + Y.length ≤ room) : ∀ i, i ≤ 5 → Fit (K + 2) (L + Y.length) (rnS X Y room i) := by
 have f1 := hf.create tmpB
 rw [stR_create] at f1
 have f2 := f1.append tmpB Y
 rw [tmp_append h] at f2
 have f3 := f2.sync tmpB
 rw [tmp_sync] at f3
 have f4 := f3.rename tmpB refsB
 rw [tmp_rename] at f4
 have f5 := f4.flush
 rw [tmp_flush] at f5
 intro i hi
 match i, hi with
 | 0, _ => exact hf.mono (by omega) (by omega)
 | 1, _ => exact f1.mono (by omega) (by omega)
 | 2, _ => exact f2.mono (by omega) (by omega)
 | 3, _ => exact f3.mono (by omega) (by omega)
 | 4, _ => exact f4.mono (by omega) (by omega)
 | 5, _ => exact f5.mono (by omega) (by omega)
end
set_option maxRecDepth 100000 in
set_option maxHeartbeats 4000000 in
theorem rread2_any {K L : Nat} {F : Nat → Prop} (R : RA) (m : DM) (S : ByteArray) (w : World) (h : RIn F w R m) (hf : Fit K L m) (hK : K ≤ 1000) (bs : List UInt8) (e' : Int) (he : readM m S.data.toList = (bs, e')) :
  Calls Tryz.prog 53 #[R.val m, .string S] w fun e w' => ∃ A n c, e = .returned (.tuple #[.slice A n c, .int .i64 e']) ∧ n = bs.length ∧ n ≤ c ∧ c ≤ 9223372036854775807 ∧ RdF F w' A (b8s bs) ∧ Below w.heap.size w w' := by
 have H := h_ h
 have HF := h_ hf
 obtain ⟨nf, hnf⟩ := eX m.files.length
 obtain ⟨n, hn⟩ := eX m.now.length
 have hnk : n ≤ 1000 := by have := hf.now; omega
 have HN := h_ hn
 have HNF := h_ hnf
 unfold RA.val RA.row
 rw [hn, hnf]
 obtain ⟨fa, hfa⟩ := eX R.fa
 obtain ⟨na, hna⟩ := eX R.na
 have HFA := h_ hfa
 have HNA := h_ hna
 rw [hfa, hna]
 obtain ⟨ns, hns⟩ := eX m.sure.length
 obtain ⟨nt, hnt⟩ := eX m.turns.length
 obtain ⟨mo, hmo⟩ := eX m.most
 obtain ⟨fu, hfu⟩ := eX m.fuse
 obtain ⟨dn, hdn⟩ := eX m.down
 rw [hns, hnt, hmo, hfu, hdn]
 obtain ⟨W1, hW1⟩ := eX (w.alloc (.cells #[.slice fa nf R.fc, .slice na n R.nc, .slice R.sa ns R.sc, .slice R.ta nt R.tc, .int .i64 (mo : Int), .int .i64 (fu : Int), .bool dn] 53))
 obtain ⟨r1, b1, s1⟩ := new_row hW1
 obtain ⟨c0, c1, -, -, -, -, c6⟩ := rw7 (h_ r1)
 have HB1 := h_ b1
 have HDN := h_ hdn
 have HE := h_ he
 have HFND := h_ (rfind_any na m.now n R.nc HN.out (by omega) S W1 (by have := (h.below b1).rn.1; rw [hna] at this; exact this))
 clear h hf hn hnf hns hnt hmo hfu hdn he hfa hna r1 b1 s1
 cases dn with
 | true =>
   have HQ : Hid (bs = [] ∧ e' = 50) := h_ (by
    have h := HE.out
    simp [readM, findM, HDN.out] at h
    exact ⟨h.1, h.2.symm⟩)
   obtain ⟨rfl, rfl⟩ := HQ.out
   go_enter Tryz.func53, Tryz.ntmps53
   go_wp2_with fail
   go_ret2
   exact ⟨none, 0, 0, rfl, rfl, Nat.le_refl _, Nat.zero_le _, RdF.nil, HB1.out⟩
 | false =>
   cases hfn : findN m.now S.data.toList with
   | none =>
     have HQ : Hid (bs = [] ∧ e' = 4) := h_ (by
      have h := HE.out
      simp [readM, findM, HDN.out, hfn] at h
      exact ⟨h.1, h.2.symm⟩)
     obtain ⟨rfl, rfl⟩ := HQ.out
     have HFI := h_ (findI_none hfn)
     rw [HFI.out] at HFND
     clear hfn
     go_enter Tryz.func53, Tryz.ntmps53
     go_wp2_with fail
     refine HFND.out.mono ?_
     rintro e w2 ⟨rfl, rfl⟩
     go_wp2_with fail
     go_ret2
     exact ⟨none, 0, 0, rfl, rfl, Nat.le_refl _, Nat.zero_le _, RdF.nil, HB1.out⟩
   | some f =>
     have HQ : Hid (bs = (fileM m f).b ∧ e' = 0) := h_ (by
      have h := HE.out
      simp [readM, findM, HDN.out, hfn] at h
      exact ⟨h.1.symm, h.2.symm⟩)
     obtain ⟨q, hq, hqf⟩ := findN_mem hfn
     have hfl : f < m.files.length := by have := HF.out.ids.now _ hq; rw [hqf] at this; exact this
     obtain ⟨p, hfp, hmem, hfm, _⟩ := H.out.file hfl
     obtain ⟨b', o', hA', hrow'⟩ := (H.out.below HB1.out).fcell hfp
     have HRB := h_ ((H.out.below HB1.out).rb p hmem).1
     have HRC := h_ ((H.out.below HB1.out).rb p hmem).2
     have a2 : W1.cell? ⟨b', o' + f * 2, none⟩ = some (.slice p.1.A p.1.bs.length p.1.c) := hrow' 0 _ rfl
     have HBS : Hid (bs = p.1.bs) := h_ (by rw [HQ.out.1, hfm]; rfl)
     obtain rfl := HQ.out.2
     rw [HNF.out] at hfl
     have j1 : (f : Int) < (nf : Int) := by omega
     have j0 : ¬ ((f : Int) < 0) := by omega
     have HFI := h_ (findI_some hfn)
     rw [HFI.out] at HFND
     rw [HFA.out] at hA'
     have HA' := h_ hA'
     rw [hA'] at c0
     rw [hA']
     rw [HA'.out] at hW1
     clear hfn hq hqf hfp hmem hfm hrow' hA' HQ
     go_enter Tryz.func53, Tryz.ntmps53
     go_wp2_with fail
     refine HFND.out.mono ?_
     rintro e w2 ⟨rfl, rfl⟩
     go_wp2_with fail
     go_ret2
     exact ⟨_, _, _, rfl, by rw [HBS.out], HRC.out.1, HRC.out.2, by rw [HBS.out]; exact HRB.out, HB1.out⟩
end Go.Proofs.YtelbofikcpchiaaGreat
