/- EncBack: the walk. -/
import Derived.Test.YtgmhdkkhiclilaaEncBackM
import Derived.Test.YtgmhdkkhiclilaaEncIn4
import Derived.Deep.CutBlock
import Derived.Deep.DeepCutAuto
namespace Go.Proofs.Ytgmhdkkhiclilaa
set_option linter.unusedVariables false
set_option linter.unusedSimpArgs false
open Go.RowKit

/-- bytes behind a slice value -/
def Sl (w : World) (v : Value) (bs : List UInt8) : Prop := ∃ A n c, v = .slice A n c ∧ n = bs.length ∧ n ≤ c ∧ c ≤ maxLen ∧ Rd w A (b8s bs)
theorem Sl.nil (w : World) : Sl w (.slice none 0 0) [] := ⟨_, _, _, rfl, rfl, Nat.le_refl _, by unfold maxLen; omega, Rd.nil⟩
theorem Own8.sl {N : Nat} {w0 w : World} {v : Value} {zs : List UInt8} (h : Own8 N w0 w v zs) : Sl w v zs := by
  obtain ⟨A, n, c, h1, h2, h3, h4, h5, _⟩ := h.sliceN
  exact ⟨A, n, c, h1, h2, h3, h4, h5⟩
theorem Sl.below {w w' : World} {v : Value} {bs : List UInt8} (h : Sl w v bs) (hb : Below w.heap.size w w') : Sl w' v bs := by
  obtain ⟨A, n, c, h1, h2, h3, h4, h5⟩ := h
  exact ⟨A, n, c, h1, h2, h3, h4, h5.below hb⟩

theorem id_one {w : World} (idv : List UInt8) (hid : idv.length = 32) :
    ∃ H Wa W5, w.heap.size = H ∧ w.alloc (.cells (b8s zeros32).toArray 32) = Wa ∧ Wa.setCells H 0 (b8s idv).toArray.toList = W5 ∧ Wa.there H 0 (b8s idv).toArray.size ∧ W5.heap[H]? = some (.cells (b8s idv).toArray 32 (0, 0)) ∧ Below w.heap.size w W5 := by
  have hr : (w.alloc (.cells (b8s zeros32).toArray 32)).heap[w.heap.size]? = some (.cells (b8s zeros32).toArray 32 (0, 0)) := heap_alloc_new w _
  have hb : Below w.heap.size w (w.alloc (.cells (b8s zeros32).toArray 32)) := (Below.refl _ _).alloc (Nat.le_refl _) _
  have hs : (b8s idv).toArray.size = 32 := by simp [b8s, hid]
  refine ⟨w.heap.size, _, _, rfl, rfl, rfl, by rw [hs]; exact there_of_row hr, row_setAll hr (by rw [b8s_length, b8s_length, hid]; rfl), bel_grown hb hb.size (setCells_grown _ _ _ _) (Nat.le_refl _)⟩
section
variable {P : Program} {ops : Array Oper} {rest : List Oper} {o : Oper} {a : Act} {w : World} {Q : Exit → Act → World → Prop}
theorem wpList_wanted (hw : Region.wanted o (yielded ops a.tmps) = true) (h : ∀ K : Act → World → Prop, (∀ a w, wpList P ops Q rest a w → K a w) → o.wp P a w K Q) : wpList P ops Q (o :: rest) a w :=
  wpList_step fun K hK => by simp only [hw, if_true]; exact h K hK
/-- a whole row is loaded, by an operation with a guard that lets it by -/
theorem wpList_load_row_w (ty : TypeId) (x : Operand) (ho : o.op = .load ty x)
    (g : Nat) (hx : a.eval x = .pointer (some ⟨g, 0, none⟩)) (t : TypeId) (cs : Array Value) (fr : Nat × Nat) (d : TypeDesc) (hg : w.heap[g]? = some (.cells cs t fr))
    (hu : P.underlying ty = some d) (hd : (match d with | .struct _ | .array _ _ => true | _ => false) = true) (hi : (P.info? ty).map (·.size) = some cs.size) (hw : Region.wanted o (yielded ops a.tmps) = true)
    (h : wpList P ops Q rest (a.put o.dst (.agg cs)) w) : wpList P ops Q (o :: rest) a w :=
  wpList_wanted hw fun _ hK => wp_load_row ty x ho g hx t cs fr d hg hu hd hi (hK _ _ h)
end

attribute [local go_sem high] run_max2c run_min2c

/-- what stands behind the texts when the cut is k -/
def xB (id : List UInt8) (k : Nat) : List UInt8 := id.take (32 - k) ++ List.replicate (2 * k) 0
theorem xB_len (id : List UInt8) (k : Nat) (h : id.length = 32) (hk : k ≤ 1) : (xB id k).length = 32 + k := by simp [xB]; omega
theorem xB_zero (id : List UInt8) (h : id.length = 32) : xB id 0 = id := by
  simp [xB]; exact List.take_of_length_le (by omega)
theorem xB_take (a id : List UInt8) (k : Nat) (h : id.length = 32) (hk : k ≤ 1) : (a ++ id).take ((a ++ id).length - k) = a ++ id.take (32 - k) := by
  rw [List.take_append]
  simp only [List.length_append, h]
  congr 1
  · exact List.take_of_length_le (by omega)
  · congr 1; omega
theorem getId_xB1 (id : List UInt8) (h : id.length = 32) : getId (some (xB id 1)) = (id.take 31 ++ [0], some [0]) := by
  have e : xB id 1 = (id.take 31 ++ [0]) ++ [0] := by simp [xB, List.replicate]
  rw [e]
  exact getId_back _ _ (by simp; omega)
theorem getId_xB0 (id : List UInt8) (h : id.length = 32) : getId (some (xB id 0)) = (id, some []) := by
  rw [xB_zero id h]
  have := getId_back id [] h
  simpa using this

set_option maxRecDepth 100000 in
set_option maxHeartbeats 2000000 in
theorem encBack_any (A B : Option Addr) (nums : List Int) (texts : List ByteArray) (id : List UInt8) (c c' : Nat) (w : World) (hr : Rd w A (nums.map (Value.int .i64))) (hz : Rd w B (texts.map Value.string)) (hid : id.length = 32) (hm : nums.length ≤ maxLen) (hm' : texts.length ≤ maxLen) :
    Calls Try.prog 9 #[.slice A nums.length c, .slice B texts.length c', .agg (b8s id).toArray] w fun e w' => e = .returned (.bool true) ∧ Below w.heap.size w w' := by
  unfold maxLen at hm hm'
  obtain ⟨W0, hW0⟩ : ∃ W0 : World, w.alloc (.cells (b8s id).toArray 32) = W0 := ⟨_, rfl⟩
  have hnew : W0.heap[w.heap.size]? = some (.cells (b8s id).toArray 32 (0, 0)) := by rw [← hW0]; exact heap_alloc_new w _
  have hB : Below w.heap.size w W0 := by rw [← hW0]; exact (Below.refl _ _).alloc (Nat.le_refl _) _
  have hr0 := hr.below hB
  have hz0 := hz.below hB
  have HNEW := Lib.hid hnew
  have HB := Lib.hid hB
  have HR := Lib.hid hr0
  have HZ := Lib.hid hz0
  clear hr hz hnew hB hr0 hz0
  by_cases h1 : 40 < nums.length
  · have h1i : (40 : Int) < nums.length := by omega
    go_enter Try.func9, Try.ntmps9
    go_wp2_with fail
    clear hW0
    refine (writing_any W0).mono ?_
    rintro e w1 ⟨rfl, hb1⟩
    go_wp2_with fail
    refine (reading_any w1).mono ?_
    rintro e w2 ⟨rfl, hb2⟩
    go_wp2_with fail
    go_ret
    exact ⟨rfl, ext_trans HB.out (ext_trans hb1 hb2)⟩
  have h1i : ¬ (40 : Int) < nums.length := by omega
  by_cases h2 : 40 < texts.length
  · have h2i : (40 : Int) < texts.length := by omega
    go_enter Try.func9, Try.ntmps9
    go_wp2_with fail
    clear hW0
    refine (writing_any W0).mono ?_
    rintro e w1 ⟨rfl, hb1⟩
    go_wp2_with fail
    refine (reading_any w1).mono ?_
    rintro e w2 ⟨rfl, hb2⟩
    go_wp2_with fail
    go_ret
    exact ⟨rfl, ext_trans HB.out (ext_trans hb1 hb2)⟩
  have h2i : ¬ (40 : Int) < texts.length := by omega
  go_enter Try.func9, Try.ntmps9
  go_wp2_with fail
  clear hW0
  refine (writing_any W0).mono ?_
  rintro e w1 ⟨rfl, hb1⟩
  go_wp2_with fail
  refine (reading_any w1).mono ?_
  rintro e w2 ⟨rfl, hb2⟩
  have hbel := ext_trans hb1 hb2
  clear hb1 hb2
  go_wp2_with fail
  clear h1i h2i
  go_loopg [7, 38] nums.length (fun gk v i wr => ∃ (k : Nat), k ≤ nums.length ∧ gk = nums.length - k ∧ i = .int .i64 k ∧ Sl wr v (nB (nums.take k)) ∧ Below W0.heap.size W0 wr)
  case atStart => exact ⟨0, by omega, by omega, rfl, Sl.nil _, hbel⟩
  case round =>
    clear hbel
    obtain ⟨k, hk, rfl, rfl, ⟨Ab, nb, cb, rfl, hnb, hnc, hcm, hrb⟩, hbel⟩ := hrel
    have Hnb := Lib.hid hnb
    clear hnb
    by_cases hlt : k < nums.length
    · obtain ⟨b, o, rfl, hc⟩ := (HR.out.below hbel).at_ k (by rw [List.length_map]; exact hlt)
      rw [List.getElem_map] at hc
      have hlen := nB_len (nums.take k)
      rw [List.length_take] at hlen
      go_wp2_with fail
      refine (num_n Ab (nB (nums.take k)) nb cb nums[k] wr Hnb.out hrb (by omega)).mono ?_
      rintro e w3 ⟨v3, rfl, hown⟩
      rw [← nB_take nums k hlt] at hown
      go_wp2_with fail
      go_roundg (nums.length - (k + 1))
      case measure => omega
      case rel => exact ⟨k + 1, by omega, rfl, by go_num, hown.sl, ext_trans hbel hown.bel⟩
    obtain rfl : k = nums.length := by omega
    rw [List.take_length] at *
    have hnl := nB_len nums
    go_wp2_with fail
    have hsl : Sl wr (.slice Ab nb cb) (nB nums ++ tB (texts.take 0)) := ⟨Ab, nb, cb, rfl, by rw [Hnb.out]; simp [tB], hnc, hcm, by simpa [tB] using hrb⟩
    go_loopg [7, 48] texts.length (fun gk v i wr => ∃ (k : Nat), k ≤ texts.length ∧ gk = texts.length - k ∧ i = .int .i64 k ∧ Sl wr v (nB nums ++ tB (texts.take k)) ∧ Hid (∀ s ∈ texts.take k, s.size ≤ 500) ∧ Below W0.heap.size W0 wr)
    case atStart => exact ⟨0, by omega, by omega, rfl, hsl, Lib.hid (by simp), hbel⟩
    case round =>
      clear hbel hsl hnc hcm hrb Hnb hk hlt
      obtain ⟨k, hk, rfl, rfl, ⟨Ab, nb, cb, rfl, hnb, hnc, hcm, hrb⟩, HS, hbel⟩ := hrel
      have Hnb := Lib.hid hnb
      clear hnb
      have hlen := tB_len (texts.take k) HS.out
      rw [List.length_take] at hlen
      by_cases hlt : k < texts.length
      · obtain ⟨b, o, rfl, hc⟩ := (HZ.out.below hbel).at_ k (by rw [List.length_map]; exact hlt)
        rw [List.getElem_map] at hc
        have HS2 : texts[k].size ≤ 500 → Hid (∀ s ∈ texts.take (k + 1), s.size ≤ 500) := fun h => Lib.hid (by
          intro s hs
          rw [List.take_succ_eq_append_getElem hlt, List.mem_append] at hs
          rcases hs with hs | hs
          · exact HS.out s hs
          · simp at hs; rw [hs]; exact h)
        have htk := tB_take texts k hlt
        have HTK := Lib.hid htk
        clear htk
        generalize texts[k] = s at *
        by_cases h5 : 500 < s.size
        · have h5i : (500 : Int) < (s.size : Int) := by omega
          go_wp2_with fail
          go_ret
          exact ⟨rfl, ext_trans HB.out hbel⟩
        have h5i : ¬ (500 : Int) < (s.size : Int) := by omega
        go_wp2_with fail
        refine (text_n Ab (nB nums ++ tB (texts.take k)) nb cb s wr Hnb.out hrb (by rw [List.length_append]; omega) (by omega)).mono ?_
        rintro e w3 ⟨v3, rfl, hown⟩
        rw [List.append_assoc, ← HTK.out] at hown
        go_wp2_with fail
        go_roundg (texts.length - (k + 1))
        case measure => omega
        case rel => exact ⟨k + 1, by omega, rfl, by go_num, hown.sl, HS2 (by omega), ext_trans hbel hown.bel⟩
      obtain rfl : k = texts.length := by omega
      rw [List.take_length] at *
      have hidn := id_n Ab (nB nums ++ tB texts) id nb cb wr Hnb.out hid hrb (by rw [List.length_append]; omega)
      have HIDN := Lib.hid hidn
      clear hidn hrb
      have hnewr := (hbel.block _ (Array.getElem?_eq_some_iff.1 HNEW.out).1).trans HNEW.out
      have HNR := Lib.hid hnewr
      clear hnewr
      go_wp2_with (refine wpList_load_row rfl _ _ rfl _ rfl _ _ _ _ HNR.out Try.underlying32 rfl (by rw [List.size_toArray, b8s_length, hid]; kernel_rfl) ?_)
      refine HIDN.out.mono ?_
      rintro e w4 ⟨v4, rfl, hown⟩
      have hbel4 := ext_trans hbel hown.bel
      obtain ⟨A4, n4, c4, rfl, hn4, hnc4, hcm4, hr4⟩ := hown.sl
      have Hn4 := Lib.hid hn4
      clear hn4 hown hbel HIDN HNR
      go_wp2_with fail
      obtain ⟨W5, hW5⟩ : ∃ W5 : World, w4.alloc (.cells #[.int .i64 0, .int .i64 1] 3) = W5 := ⟨_, rfl⟩
      have hb45 : Below w4.heap.size w4 W5 := by rw [← hW5]; exact (Below.refl _ _).alloc (Nat.le_refl _) _
      have hlit : W5.heap[w4.heap.size]? = some (.cells #[.int .i64 0, .int .i64 1] 3 (0, 0)) := by rw [← hW5]; exact heap_alloc_new w4 _
      have HL := Lib.hid hlit
      have hr5 := hr4.below hb45
      have hbel5 := ext_trans hbel4 hb45
      have HR5 := Lib.hid hr5
      have HB5 := Lib.hid hbel5
      rw [hW5]
      clear hW5 hb45 hlit hr5 hr4 hbel4 hbel5 hlen hlt hk
      go_loopg [64] 2 (fun gk i wr => ∃ (k : Nat), k ≤ 2 ∧ gk = 2 - k ∧ i = .int .i64 k ∧ Below W5.heap.size W5 wr)
      case atStart => exact ⟨0, by omega, by omega, rfl, Below.refl _ _⟩
      case round =>
        obtain ⟨k, hk, rfl, rfl, hbel⟩ := hrel
        by_cases hlt : k < 2
        · have hc : wr.cell? ⟨w4.heap.size, k, none⟩ = some (.int .i64 (k : Int)) := by
            have hb := (hbel.block _ (Array.getElem?_eq_some_iff.1 HL.out).1).trans HL.out
            rw [row_cell hb]
            match k, hlt with
            | 0, _ => rfl
            | 1, _ => rfl
          have hr6 := HR5.out.below hbel
          have hl1 : 32 ≤ n4 := by rw [Hn4.out, List.length_append, hid]; omega
          have hn1 : (32 : Int) ≤ (n4 : Int) := by omega
          have hk1 : (k : Int) ≤ 1 := by omega
          unfold maxLen at hcm4
          have hst := Own8.start wr
          have hyl : n4 - k = ((nB nums ++ tB texts) ++ id.take (32 - k)).length := by
            rw [Hn4.out]; simp only [List.length_append, List.length_take, hid]; omega
          have hyr : Rd (wr.alloc (.cells #[] 5)) A4 (b8s ((nB nums ++ tB texts) ++ id.take (32 - k))) := by
            rw [← xB_take _ id k hid (by omega), b8s_take]
            exact (hr6.alloc _).take _
          have hyb : ((nB nums ++ tB texts) ++ id.take (32 - k)).length ≤ 40000 := by
            have := tB_len texts HS.out
            simp only [List.length_append, List.length_take, hid]; omega
          have hzb : ([] : List UInt8).length + ((nB nums ++ tB texts) ++ id.take (32 - k)).length ≤ 140737488355328 := by rw [List.length_nil]; omega
          have hzc : ([] ++ ((nB nums ++ tB texts) ++ id.take (32 - k))).length + 2 * k ≤ 140737488355328 := by rw [List.nil_append]; omega
          have Hyl := Lib.hid hyl
          have Hyr := Lib.hid hyr
          have Hzb := Lib.hid hzb
          have Hzc := Lib.hid hzc
          have Hst := Lib.hid hst
          clear hyl hyr hzb hzc hst
          go_wp2_with (first
            | (at_builtin; refine wpList_append_bytes_n rfl _ _ rfl _ Hyl.out rfl rfl Hyr.out Hst.out Hzb.out ?_; intro v7 w7 hown7)
            | (at_builtin; refine wpList_append_zeros8 rfl _ _ rfl (2 * k) rfl rfl (by simp) hown7 Hzc.out ?_; intro v8 w8 hown8))
          rw [List.nil_append, List.append_assoc] at hown8
          have hxe : List.take (32 - k) id ++ List.replicate (2 * k) 0 = xB id k := rfl
          rw [hxe] at hown8
          obtain ⟨A8, n8, c8, rfl, hn8, _, _, hr8⟩ := hown8.sl
          have Hn8 := Lib.hid hn8
          have hb8 := hown8.bel
          have hx8 := xB_len id k hid (by omega)
          have hyb8 : (nB nums ++ tB texts ++ xB id k).length ≤ 140737488355328 := by
            have := tB_len texts HS.out
            simp only [List.length_append, hx8]; omega
          clear hn8 hxe hown8 hown7 Hyl Hyr Hzb Hzc Hst hr6
          refine (read_any A8 _ n8 c8 w8 Hn8.out hr8 hyb8).mono ?_
          rintro e w9 ⟨g, rfl, hg, hb9, hM⟩
          go_wp2_with fail
          have hb59 := ext_trans (ext_trans hbel hb8) hb9
          have hgN : W5.heap.size ≤ g := by have := hbel.size; have := hb8.size; omega
          clear hbel hb8 hb9 hr8 hg hc hyb hyb8 Hn8 hn1
          rw [List.append_assoc] at hM
          obtain ⟨R, hR⟩ : ∃ R, tB texts ++ xB id k = R := ⟨_, rfl⟩
          rw [hR] at hM
          have HRR := Lib.hid hR
          clear hR
          go_loopg [15, 82] nums.length (fun gk ok i wr => ∃ (j : Nat), j ≤ nums.length ∧ gk = nums.length - j ∧ i = .int .i64 j ∧ ok = .bool true ∧ RdrM wr g (some (nB (nums.drop j) ++ R)) ∧ Below W5.heap.size W5 wr)
          case atStart => exact ⟨0, by omega, by omega, rfl, rfl, by simpa using hM, hb59⟩
          case round =>
            clear hM hb59
            obtain ⟨j, hj, rfl, rfl, rfl, hM, hbel⟩ := hrel
            by_cases hlj : j < nums.length
            · obtain ⟨b, o, rfl, hc⟩ := (HR.out.below (ext_trans HB5.out hbel)).at_ j (by rw [List.length_map]; exact hlj)
              rw [List.getElem_map] at hc
              have hst := getNum_step nums j hlj R
              have hcl := clampN_eq nums[j]
              have HST := Lib.hid hst
              have HCL := Lib.hid hcl
              clear hst hcl
              go_wp2_with fail
              refine (rdnum_any g _ _ wr hM).mono ?_
              rintro e w10 ⟨rfl, hM10, hg10⟩
              rw [HST.out] at hM10 ⊢
              dsimp only at hM10 ⊢
              rw [HCL.out]
              go_wp2_with fail
              go_roundg (nums.length - (j + 1))
              case measure => omega
              case rel => exact ⟨j + 1, by omega, rfl, by go_num, rfl, hM10, bel_grown hbel hbel.size hg10 hgN⟩
            obtain rfl : j = nums.length := by omega
            rw [List.drop_length, nB, List.nil_append] at hM
            clear hj hlj
            go_wp2_with fail
            go_loopg [15, 98] texts.length (fun gk ok i wr => ∃ (j : Nat), j ≤ texts.length ∧ gk = texts.length - j ∧ i = .int .i64 j ∧ ok = .bool true ∧ RdrM wr g (some (tB (texts.drop j) ++ xB id k)) ∧ Below W5.heap.size W5 wr)
            case atStart => exact ⟨0, by omega, by omega, rfl, rfl, by rw [List.drop_zero, HRR.out]; exact hM, hbel⟩
            case round =>
              clear hM hbel
              obtain ⟨j, hj, rfl, rfl, rfl, hM, hbel⟩ := hrel
              by_cases hlj : j < texts.length
              · obtain ⟨b, o, rfl, hc⟩ := (HZ.out.below (ext_trans HB5.out hbel)).at_ j (by rw [List.length_map]; exact hlj)
                rw [List.getElem_map] at hc
                have hst := getText_step texts j hlj (HS.out _ (List.getElem_mem hlj)) (xB id k)
                have HST := Lib.hid hst
                clear hst
                go_wp2_with fail
                refine (rdtext_any g _ _ wr hM).mono ?_
                rintro e w10 ⟨rfl, hM10, hg10⟩
                rw [HST.out] at hM10 ⊢
                dsimp only at hM10 ⊢
                have hba : (⟨texts[j].data.toList.toArray⟩ : ByteArray) = texts[j] := by simp
                rw [hba]
                clear hba
                go_wp2_with fail
                go_roundg (texts.length - (j + 1))
                case measure => omega
                case rel => exact ⟨j + 1, by omega, rfl, by go_num, rfl, hM10, bel_grown hbel hbel.size hg10 hgN⟩
              obtain rfl : j = texts.length := by omega
              rw [List.drop_length, tB, List.nil_append] at hM
              clear hj hlj
              have hrd := rdid_any g (some (xB id k)) wr hM
              have hlen := getId_len (some (xB id k))
              obtain ⟨T, hT⟩ : ∃ T, getId (some (xB id k)) = T := ⟨_, rfl⟩
              rw [hT] at hrd hlen
              obtain ⟨idv, st2⟩ := T
              dsimp only at hrd hlen
              have HT := Lib.hid hT
              have HRD := Lib.hid hrd
              have Hlen := Lib.hid hlen
              clear hT hrd hlen
              go_wp2_with fail
              refine HRD.out.mono ?_
              rintro e w10 ⟨rfl, hM10, hg10⟩
              have hb10 := bel_grown hbel hbel.size hg10 hgN
              obtain ⟨H, Wa, W11, hH, hWa, hW11, hth, hrow, hb11⟩ := id_one (w := w10) idv Hlen.out
              have hWa' : w10.alloc (.cells #[Value.int .u8 0, Value.int .u8 0, Value.int .u8 0, Value.int .u8 0, Value.int .u8 0, Value.int .u8 0, Value.int .u8 0, Value.int .u8 0, Value.int .u8 0, Value.int .u8 0, Value.int .u8 0, Value.int .u8 0, Value.int .u8 0, Value.int .u8 0, Value.int .u8 0, Value.int .u8 0, Value.int .u8 0, Value.int .u8 0, Value.int .u8 0, Value.int .u8 0, Value.int .u8 0, Value.int .u8 0, Value.int .u8 0, Value.int .u8 0, Value.int .u8 0, Value.int .u8 0, Value.int .u8 0, Value.int .u8 0, Value.int .u8 0, Value.int .u8 0, Value.int .u8 0, Value.int .u8 0] 32) = Wa := hWa
              have HW11 := Lib.hid hW11
              have Hth := Lib.hid hth
              have hinf : (Try.prog.info? 32).map (·.size) = some (b8s idv).toArray.size := by
                have e : (b8s idv).toArray.size = 32 := by simp [b8s, Hlen.out]
                rw [e]; exact info_id
              have Hinf := Lib.hid hinf
              have hbel11 := hb10.trans (hb11.mono hb10.size)
              have hM11 := hM10.below hb11
              have hnewr := ((ext_trans HB5.out hbel11).block _ (Array.getElem?_eq_some_iff.1 HNEW.out).1).trans HNEW.out
              have HLA := Lib.hid hrow
              have HLB := Lib.hid hnewr
              have hinf0 : (Try.prog.info? 32).map (·.size) = some (b8s id).toArray.size := by
                have e : (b8s id).toArray.size = 32 := by simp [b8s, hid]
                rw [e]; exact info_id
              have Hinf0 := Lib.hid hinf0
              have hguard : Program.eqGuardType Try.prog Try.prog.depth 32 = false := by kernel_rfl
              clear hWa hW11 hth hinf hinf0 hrow hnewr hb11 hM10 hb10 hg10 hM hbel
              go_upto_region 35 with ((with_reducible (refine wpList_store_mid rfl _ _ _ rfl ?_ ?_ ?_ ?_ ?_ ?_ ?_ ?_ ?_)); (exact H); (exact 0); (exact (b8s idv).toArray); (focus (simp [Act.eval]; done)); (focus (simp [Act.eval]; done)); (exact Hth.out); (exact Hinf.out); (exact all_oneCell_toArray (b8s_one' _)); rw [HW11.out])
              match k, hlt with
              | 0, _ =>
                rw [getId_xB0 id hid] at HT
                have hT := HT.out
                simp only [Prod.mk.injEq] at hT
                obtain ⟨rfl, rfl⟩ := hT
                have hne : ∀ w : World, (binOp .neq 32 (.agg (b8s id).toArray) (.agg (b8s id).toArray)).run Try.prog w = .ok (.bool false) w := by
                  intro w
                  rw [run_neq_ids (P := Try.prog) (t := 32) (e := 5) (n := 32) Try.underlying32 Try.underlying5 (by kernel_rfl) (by kernel_rfl) (by kernel_rfl) id id hid hid w]
                  simp
                go_wp2_with (first
                  | ((with_reducible (refine wpList_load_row_w _ _ rfl _ rfl _ _ _ _ HLA.out Try.underlying32 rfl Hinf.out ?_ ?_)); (focus (rfl)))
                  | ((with_reducible (refine wpList_load_row_w _ _ rfl _ rfl _ _ _ _ HLB.out Try.underlying32 rfl Hinf0.out ?_ ?_)); (focus (rfl))))
                refine (done_any g _ W11 hM11).mono ?_
                rintro e w' ⟨rfl, rfl⟩
                have hd : doneS (some []) = true := rfl
                rw [hd]
                clear HLA HLB Hinf Hinf0 hne hguard
                go_wp2_with fail
                go_roundg 1
                case measure => omega
                case rel => exact ⟨1, by omega, rfl, by go_num, hbel11⟩
              | 1, _ =>
                rw [getId_xB1 id hid] at HT
                have hT := HT.out
                simp only [Prod.mk.injEq] at hT
                obtain ⟨rfl, rfl⟩ := hT
                clear HLA HLB Hinf Hinf0 hguard
                go_wp2_with fail
                refine (done_any g _ W11 hM11).mono ?_
                rintro e w' ⟨rfl, rfl⟩
                have hd : doneS (some [0]) = false := rfl
                rw [hd]
                go_wp2_with fail
                refine (left_any g _ W11 hM11).mono ?_
                rintro e w' ⟨rfl, rfl⟩
                have hd : ((leftS (some [0]) : Nat) : Int) = 1 := rfl
                rw [hd]
                go_wp2_with fail
                go_roundg 0
                case measure => omega
                case rel => exact ⟨2, by omega, rfl, by go_num, hbel11⟩
        obtain rfl : k = 2 := by omega
        have hr6 := HR5.out.below hbel
        have hl1 : 32 ≤ n4 := by rw [Hn4.out, List.length_append, hid]; omega
        have hn1 : (32 : Int) ≤ (n4 : Int) := by omega
        unfold maxLen at hcm4
        have hyl : n4 - 1 = ((nB nums ++ tB texts) ++ id.take 31).length := by
          rw [Hn4.out]; simp only [List.length_append, List.length_take, hid]; omega
        have hyr : Rd wr A4 (b8s ((nB nums ++ tB texts) ++ id.take 31)) := by
          rw [← xB_take _ id 1 hid (by omega), b8s_take]
          exact hr6.take _
        have hyb : ((nB nums ++ tB texts) ++ id.take 31).length ≤ 140737488355328 := by
          have := tB_len texts HS.out
          simp only [List.length_append, List.length_take, hid]; omega
        have Hyl := Lib.hid hyl
        have Hyr := Lib.hid hyr
        have Hyb := Lib.hid hyb
        clear hyl hyr hyb hr6 HR5
        go_wp2_with fail
        refine (read_any A4 _ (n4 - 1) c4 wr Hyl.out Hyr.out Hyb.out).mono ?_
        rintro e w9 ⟨g, rfl, hg, hb9, hM⟩
        have hb59 := ext_trans hbel hb9
        have hgN : W5.heap.size ≤ g := by have := hbel.size; omega
        clear hbel hb9 hg Hyl Hyr Hyb hn1
        rw [List.append_assoc] at hM
        obtain ⟨R, hR⟩ : ∃ R, tB texts ++ id.take 31 = R := ⟨_, rfl⟩
        rw [hR] at hM
        have HRR := Lib.hid hR
        clear hR
        go_wp2_with fail
        go_loopg [150] nums.length (fun gk i wr => ∃ (j : Nat), j ≤ nums.length ∧ gk = nums.length - j ∧ i = .int .i64 j ∧ RdrM wr g (some (nB (nums.drop j) ++ R)) ∧ Below W5.heap.size W5 wr)
        case atStart => exact ⟨0, by omega, by omega, rfl, by simpa using hM, hb59⟩
        case round =>
          clear hM hb59
          obtain ⟨j, hj, rfl, rfl, hM, hbel⟩ := hrel
          by_cases hlj : j < nums.length
          · have hst := getNum_step nums j hlj R
            have HST := Lib.hid hst
            clear hst
            go_wp2_with fail
            refine (rdnum_any g _ _ wr hM).mono ?_
            rintro e w10 ⟨rfl, hM10, hg10⟩
            rw [HST.out] at hM10 ⊢
            dsimp only at hM10 ⊢
            go_wp2_with fail
            go_roundg (nums.length - (j + 1))
            case measure => omega
            case rel => exact ⟨j + 1, by omega, rfl, by go_num, hM10, bel_grown hbel hbel.size hg10 hgN⟩
          obtain rfl : j = nums.length := by omega
          rw [List.drop_length, nB, List.nil_append] at hM
          clear hj hlj
          go_wp2_with fail
          go_loopg [157] texts.length (fun gk i wr => ∃ (j : Nat), j ≤ texts.length ∧ gk = texts.length - j ∧ i = .int .i64 j ∧ RdrM wr g (some (tB (texts.drop j) ++ id.take 31)) ∧ Below W5.heap.size W5 wr)
          case atStart => exact ⟨0, by omega, by omega, rfl, by rw [List.drop_zero, HRR.out]; exact hM, hbel⟩
          case round =>
            clear hM hbel
            obtain ⟨j, hj, rfl, rfl, hM, hbel⟩ := hrel
            by_cases hlj : j < texts.length
            · have hst := getText_step texts j hlj (HS.out _ (List.getElem_mem hlj)) (id.take 31)
              have HST := Lib.hid hst
              clear hst
              go_wp2_with fail
              refine (rdtext_any g _ _ wr hM).mono ?_
              rintro e w10 ⟨rfl, hM10, hg10⟩
              rw [HST.out] at hM10 ⊢
              dsimp only at hM10 ⊢
              go_wp2_with fail
              go_roundg (texts.length - (j + 1))
              case measure => omega
              case rel => exact ⟨j + 1, by omega, rfl, by go_num, hM10, bel_grown hbel hbel.size hg10 hgN⟩
            obtain rfl : j = texts.length := by omega
            rw [List.drop_length, tB, List.nil_append] at hM
            clear hj hlj
            have hrd := rdid_any g _ wr hM
            rw [getId_short (id.take 31) (by rw [List.length_take, hid]; omega)] at hrd
            dsimp only at hrd
            rw [zero32_lit] at hrd
            have HRD := Lib.hid hrd
            have hguard : Program.eqGuardType Try.prog Try.prog.depth 32 = false := by kernel_rfl
            have hne : ∀ w : World, (binOp .eql 32 (.agg (b8s zero32).toArray) (.agg (b8s zero32).toArray)).run Try.prog w = .ok (.bool true) w := by
              intro w
              rw [run_eql_ids (P := Try.prog) (t := 32) (e := 5) (n := 32) Try.underlying32 Try.underlying5 (by kernel_rfl) (by kernel_rfl) (by kernel_rfl) zero32 zero32 rfl rfl w]
              simp
            rw [zero32_lit] at hne
            clear hrd
            go_wp2_with fail
            refine HRD.out.mono ?_
            rintro e w10 ⟨rfl, hM10, hg10⟩
            have hb10 := bel_grown hbel hbel.size hg10 hgN
            go_wp2_with fail
            refine (good_any g _ w10 hM10).mono ?_
            rintro e w' ⟨rfl, rfl⟩
            go_wp2_with fail
            refine (done_any g _ w10 hM10).mono ?_
            rintro e w' ⟨rfl, rfl⟩
            have hd : doneS none = false := rfl
            rw [hd]
            go_wp2_with fail
            go_ret
            exact ⟨rfl, ext_trans HB.out (ext_trans HB5.out hb10)⟩
end Go.Proofs.Ytgmhdkkhiclilaa
