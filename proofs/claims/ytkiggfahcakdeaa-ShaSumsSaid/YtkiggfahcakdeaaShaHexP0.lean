
/- hexing, and ShaHex: the walks. -/

import Derived.Test.YtkiggfahcakdeaaShaParse

namespace Go.Proofs.Ytkiggfahcakdeaa

set_option linter.unusedVariables false

set_option linter.unusedSimpArgs false

open Go.RowKit

def abcHex : List UInt8 := [98, 97, 55, 56, 49, 54, 98, 102, 56, 102, 48, 49, 99, 102, 101, 97, 52, 49, 52, 49, 52, 48, 100, 101, 53, 100, 97, 101, 50, 50, 50, 51, 98, 48, 48, 51, 54, 49, 97, 51, 57, 54, 49, 55, 55, 97, 57, 99, 98, 52, 49, 48, 102, 102, 54, 49, 102, 50, 48, 48, 49, 53, 97, 100]
def abcId : List UInt8 := [186, 120, 22, 191, 143, 1, 207, 234, 65, 65, 64, 222, 93, 174, 34, 35, 176, 3, 97, 163, 150, 23, 122, 156, 180, 16, 255, 97, 242, 0, 21, 173]
theorem abc_parse : parseL abcHex = (abcId, true) := by decide +kernel
theorem abc_hex : hexL abcId = abcHex := by decide +kernel

set_option maxRecDepth 100000 in
set_option maxHeartbeats 1000000 in
theorem hexing_any (w : World) : Calls Try.prog 10 #[] w fun e w' => e = .returned (.bool true) ∧ Below w.heap.size w w' := by
  have hp := parse_any ⟨#[98, 97, 55, 56, 49, 54, 98, 102, 56, 102, 48, 49, 99, 102, 101, 97, 52, 49, 52, 49, 52, 48, 100, 101, 53, 100, 97, 101, 50, 50, 50, 51, 98, 48, 48, 51, 54, 49, 97, 51, 57, 54, 49, 55, 55, 97, 57, 99, 98, 52, 49, 48, 102, 102, 54, 49, 102, 50, 48, 48, 49, 53, 97, 100]⟩ (by decide) w
  have hl : (⟨#[98, 97, 55, 56, 49, 54, 98, 102, 56, 102, 48, 49, 99, 102, 101, 97, 52, 49, 52, 49, 52, 48, 100, 101, 53, 100, 97, 101, 50, 50, 50, 51, 98, 48, 48, 51, 54, 49, 97, 51, 57, 54, 49, 55, 55, 97, 57, 99, 98, 52, 49, 48, 102, 102, 54, 49, 102, 50, 48, 48, 49, 53, 97, 100]⟩ : ByteArray).data.toList = abcHex := rfl
  rw [hl, abc_parse] at hp
  have HP := Lib.hid hp
  have hidl : abcId.length = 32 := rfl
  have h0 : abcId[0]'(by decide) = 186 := rfl
  have hh := fun w => hex_any abcId hidl w
  rw [abc_hex] at hh
  have HH := Lib.hid hh
  have HI : Hid ((Try.prog.info? 23).map (·.size) = some (b8s abcId).toArray.size) := Lib.hid (info_of_arr _ hidl info_id)
  clear hp hl hh
  obtain ⟨V, hV⟩ : ∃ V, abcId = V := ⟨_, rfl⟩
  rw [hV] at HP HH HI hidl
  have hv0 : V[0]'(by rw [hidl]; decide) = 186 := by subst hV; rfl
  have hlit : (⟨abcHex.toArray⟩ : ByteArray) = ⟨#[98, 97, 55, 56, 49, 54, 98, 102, 56, 102, 48, 49, 99, 102, 101, 97, 52, 49, 52, 49, 52, 48, 100, 101, 53, 100, 97, 101, 50, 50, 50, 51, 98, 48, 48, 51, 54, 49, 97, 51, 57, 54, 49, 55, 55, 97, 57, 99, 98, 52, 49, 48, 102, 102, 54, 49, 102, 50, 48, 48, 49, 53, 97, 100]⟩ := rfl
  rw [hlit] at HH
  clear hV h0 hlit
  go_enter Try.func10, Try.ntmps10
  go_wp2_with fail
  refine HP.out.mono ?_
  rintro e w1 ⟨rfl, hb1⟩
  obtain ⟨H, Wa, W5, hH, hWa, hW5, HTH, HROW, HB5, HS5⟩ := arr_place (w := w1) 23 V hidl
  have HW5 := Lib.hid hW5
  have hc0 : W5.cell? ⟨H, 0, none⟩ = some (.int .u8 186) := by
    rw [row_cell HROW.out, List.getElem?_toArray, b8s_get V 0 (by rw [hidl]; decide), hv0]; rfl
  clear hW5 hv0
  go_wp2_with (first
    | ((with_reducible (refine wpList_store_mid rfl _ _ _ rfl ?_ ?_ ?_ ?_ ?_ ?_ ?_ ?_ ?_)); (exact H); (exact 0); (exact (b8s V).toArray); (exact rfl); (exact rfl); (exact HTH.out); (exact HI.out); (exact all_oneCell_toArray (b8s_one' _)); rw [HW5.out])
    | ((with_reducible (refine wpList_load_row_w _ _ rfl _ rfl _ _ _ _ HROW.out Try.underlying23 rfl HI.out ?_ ?_)); (focus (rfl))))
  refine (HH.out W5).mono ?_
  rintro e w2 ⟨rfl, hb2⟩
  go_wp2_with fail
  go_ret
  exact ⟨rfl, ext_trans hb1 (ext_trans HB5.out hb2)⟩
end Go.Proofs.Ytkiggfahcakdeaa
