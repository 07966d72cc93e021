
/- alive, of layer 1: it answers true. -/

import Derived.Test.YtkiggfahcakdeaaShaSum

import Derived.Test.YtkiggfahcakdeaaShaHexP0

namespace Go.Proofs.Ytkiggfahcakdeaa

set_option linter.unusedVariables false

set_option linter.unusedSimpArgs false

open Go.RowKit

theorem b8s_get? (bs : List UInt8) (k : Nat) : (b8s bs)[k]? = bs[k]?.map fun c => .int .u8 (c.toNat : Int) := by simp [b8s]

set_option maxRecDepth 100000 in
set_option maxHeartbeats 1000000 in
theorem alive_any (w : World) : Calls Try.prog 17 #[] w fun e w' => e = .returned (.bool true) ∧ Below w.heap.size w w' := by
  have hs := sum_any (some ⟨w.heap.size, 0, none⟩) [97, 98, 99] 3 (w.alloc (.cells #[.int .u8 97, .int .u8 98, .int .u8 99] 5 (3, 4))) (Rd.newm w (b8s [97, 98, 99]) 5 (3, 4)) (by decide) (by decide) (by decide)
  have hidl : (shaL [97, 98, 99]).length = 32 := rfl
  have hv0 : (shaL [97, 98, 99])[0]? = some 186 := by decide +kernel
  have hv1 : (shaL [97, 98, 99])[1]? = some 120 := by decide +kernel
  have hv2 : (shaL [97, 98, 99])[2]? = some 22 := by decide +kernel
  have hv3 : (shaL [97, 98, 99])[3]? = some 191 := by decide +kernel
  have hv31 : (shaL [97, 98, 99])[31]? = some 173 := by decide +kernel
  obtain ⟨V, hV⟩ : ∃ V, shaL [97, 98, 99] = V := ⟨_, rfl⟩
  simp only [hV] at hs hidl hv0 hv1 hv2 hv3 hv31
  have HI : Hid ((Try.prog.info? 23).map (·.size) = some (b8s V).toArray.size) := Lib.hid (info_of_arr _ hidl info_id)
  have HS := Lib.hid hs
  have HV := Lib.hid (And.intro hv0 (And.intro hv1 (And.intro hv2 (And.intro hv3 hv31))))
  have HL := Lib.hid hidl
  clear hs hV hv0 hv1 hv2 hv3 hv31 hidl
  have kc := fun (w : World) (C : Array Value) (n c : Nat) => Lib.run_convert_bytes_const (P := Try.prog) w 32 5 C n c Try.underlying32 Try.underlying5
  go_enter Try.func17, Try.ntmps17
  go_wp2_with fail
  refine HS.out.mono ?_
  rintro e w1 ⟨rfl, hb1⟩
  obtain ⟨H, Wa, W5, hH, hWa, hW5, HTH, HROW, HB5, HS5⟩ := arr_place (w := w1) 23 V HL.out
  have HW5 := Lib.hid hW5
  obtain ⟨hv0, hv1, hv2, hv3, hv31⟩ := HV.out
  have hidl := HL.out
  have hc0 : W5.cell? ⟨H, 0, none⟩ = some (.int .u8 186) := by
    rw [row_cell HROW.out, List.getElem?_toArray, b8s_get?, hv0]; rfl
  have hc1 : W5.cell? ⟨H, 1, none⟩ = some (.int .u8 120) := by
    rw [row_cell HROW.out, List.getElem?_toArray, b8s_get?, hv1]; rfl
  have hc2 : W5.cell? ⟨H, 2, none⟩ = some (.int .u8 22) := by
    rw [row_cell HROW.out, List.getElem?_toArray, b8s_get?, hv2]; rfl
  have hc3 : W5.cell? ⟨H, 3, none⟩ = some (.int .u8 191) := by
    rw [row_cell HROW.out, List.getElem?_toArray, b8s_get?, hv3]; rfl
  have hc31 : W5.cell? ⟨H, 31, none⟩ = some (.int .u8 173) := by
    rw [row_cell HROW.out, List.getElem?_toArray, b8s_get?, hv31]; rfl
  clear hW5 hv0 hv1 hv2 hv3 hv31 hidl
  go_wp2_with ((with_reducible (refine wpList_store_mid rfl _ _ _ rfl ?_ ?_ ?_ ?_ ?_ ?_ ?_ ?_ ?_)); (exact H); (exact 0); (exact (b8s V).toArray); (exact rfl); (exact rfl); (exact HTH.out); (exact HI.out); (exact all_oneCell_toArray (b8s_one' _)); rw [HW5.out])
  go_ret
  exact ⟨rfl, ext_trans (((Below.refl _ _).alloc (Nat.le_refl _) _)) (ext_trans hb1 HB5.out)⟩
end Go.Proofs.Ytkiggfahcakdeaa
