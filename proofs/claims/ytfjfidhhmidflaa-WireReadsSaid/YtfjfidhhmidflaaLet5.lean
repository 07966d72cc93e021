
/- rightRefs. -/

import Derived.Test.YtfjfidhhmidflaaLet4

namespace Go.Proofs.Ytfjfidhhmidflaa

set_option linter.unusedVariables false

set_option linter.unusedSimpArgs false

open Go.RowKit

/-! ### plain -/

def nameLt (a b : ByteArray) : Bool := Op.bytesLess a.toList b.toList
def prevLess (rs : List RefM) (s : RefM) : Nat → Bool
  | 0 => true
  | j + 1 => match rs[j]? with | none => true | some p => nameLt p.name s.name
def refAt (rs : List RefM) (i : Nat) : Bool := match rs[i]? with | none => true | some s => nameS s.name && !decide (s.id = zeros32) && prevLess rs s i
def refsAll (rs : List RefM) : Bool := (List.range rs.length).all (refAt rs)
def rightRefsB (rs : List RefM) : Bool := refsAll rs && decide (rs.length ≤ 100)
theorem refAt_get (rs : List RefM) (i : Nat) (h : i < rs.length) : refAt rs i = (nameS rs[i].name && !decide (rs[i].id = zeros32) && prevLess rs rs[i] i) := by
  unfold refAt
  rw [List.getElem?_eq_getElem h]
theorem prevLess_succ (rs : List RefM) (s : RefM) (j : Nat) (h : j < rs.length) : prevLess rs s (j + 1) = nameLt rs[j].name s.name := by
  show (match rs[j]? with | none => true | some p => nameLt p.name s.name) = _
  rw [List.getElem?_eq_getElem h]
theorem refsAll_all {rs : List RefM} (h : ∀ j < rs.length, refAt rs j = true) : refsAll rs = true := by
  unfold refsAll
  rw [List.all_eq_true]
  intro j hj
  exact h j (by simpa using hj)
theorem refsAll_bad {rs : List RefM} (i : Nat) (hi : i < rs.length) (h : refAt rs i = false) : refsAll rs = false := by
  unfold refsAll
  rw [List.all_eq_false]
  exact ⟨i, by simpa using hi, by rw [h]; decide⟩

/-! ### a ref's row -/

def refZ : List Value := .string ⟨#[]⟩ :: b8s zeros32
theorem ref_cell0 {w : World} {g off : Nat} {r : RefM} (h : w.rangeAt g off r.cells) : w.cell? ⟨g, off, none⟩ = some (.string r.name) := by
  have := h 0 (.string r.name) rfl
  simpa using this
theorem ref_range1 {w : World} {g off : Nat} {r : RefM} (h : w.rangeAt g off r.cells) : w.rangeAt g (off + 1) (b8s r.id) := fun j v hv => by
  have := h (j + 1) v (by simpa [RefM.cells] using hv)
  rwa [show off + 1 + j = off + (j + 1) by omega]
theorem info_ref (r : RefM) (h : r.ok) : (Try.prog.info? 52).map (·.size) = some r.cells.length := by rw [RefM.len h]; kernel_rfl

set_option maxRecDepth 100000 in
set_option maxHeartbeats 2000000 in
theorem rightRefs_any (A : Option Addr) (rs : List RefM) (c : Nat) (w : World) (hr : Rd w A (rfc rs)) (ho : rOk rs) (hc : rs.length ≤ c) (hm : c ≤ 9223372036854775807) :
    Calls Try.prog 29 #[.slice A rs.length c] w fun e w' => e = .returned (.bool (rightRefsB rs)) ∧ Below w.heap.size w w' := by
  have HR := Lib.hid hr
  have HO := Lib.hid ho
  have HB0 := Lib.hid (Below.refl w.heap.size w)
  obtain ⟨V, hV⟩ : ∃ V, rightRefsB rs = V := ⟨_, rfl⟩
  have HV := Lib.hid hV
  rw [hV]
  clear hr ho hV
  go_enter Try.func29, Try.ntmps29
  go_wp2_with fail
  go_loopg [7] (rs.length * 1) (fun gk_ s wr => ∃ (k : Nat), k ≤ rs.length ∧ gk_ = rs.length - k ∧ s = .int .i64 (k : Int) ∧ Hid (Below w.heap.size w wr) ∧ Hid (∀ j < k, refAt rs j = true))
  case atStart => exact ⟨0, by omega, by omega, rfl, HB0, Lib.hid (fun j hj => absurd hj (Nat.not_lt_zero _))⟩
  case round =>
    clear HB0
    obtain ⟨k, hk, rfl, rfl, HB1, HOK⟩ := hrel
    by_cases hlt : k < rs.length
    · have hpos : 0 < (rfc rs).length := by rw [rfc_length HO.out]; omega
      have hrd := HR.out.below HB1.out
      obtain ⟨b, off, hA, _⟩ := hrd.all hpos
      subst hA
      have RS := rd_ref hrd HO.out k hlt
      have hso := rOk_get HO.out k hlt
      have hget := refAt_get rs k hlt
      obtain ⟨s, hs⟩ : ∃ s, rs[k] = s := ⟨_, rfl⟩
      rw [hs] at RS hso hget
      have HGET := Lib.hid hget
      have HSO := Lib.hid hso
      have HIS := Lib.hid (info_ref s hso)
      have HIA : Hid ((Try.prog.info? 52).map (·.size) = some s.cells.toArray.size) := Lib.hid (by rw [List.size_toArray]; exact info_ref s hso)
      have HIW := Lib.hid (info_id32 s.id hso.1)
      obtain ⟨Wa, W5, hWa0, hW5, HTH, HRS, HB5⟩ := row_place (w := wr) 52 refZ s.cells (by rw [RefM.len hso]; rfl)
      have hWa : wr.alloc (.cells #[Value.string ⟨#[]⟩, Value.int .u8 0, Value.int .u8 0, Value.int .u8 0, Value.int .u8 0, Value.int .u8 0, Value.int .u8 0, Value.int .u8 0, Value.int .u8 0, Value.int .u8 0, Value.int .u8 0, Value.int .u8 0, Value.int .u8 0, Value.int .u8 0, Value.int .u8 0, Value.int .u8 0, Value.int .u8 0, Value.int .u8 0, Value.int .u8 0, Value.int .u8 0, Value.int .u8 0, Value.int .u8 0, Value.int .u8 0, Value.int .u8 0, Value.int .u8 0, Value.int .u8 0, Value.int .u8 0, Value.int .u8 0, Value.int .u8 0, Value.int .u8 0, Value.int .u8 0, Value.int .u8 0, Value.int .u8 0] 52) = Wa := hWa0
      have HW5 := Lib.hid hW5
      have hHl : wr.heap.size < W5.heap.size := (Array.getElem?_eq_some_iff.1 HRS.out).1
      have HHL := Lib.hid hHl
      have hrow := range_of_row HRS.out
      have HC0 := Lib.hid (ref_cell0 hrow)
      have HC1 := Lib.hid (ref_range1 hrow)
      have HRD5 := Lib.hid (hrd.below HB5.out)
      have GL := Lib.hid (HRD5.out.lt hpos)
      have HBW := Lib.hid (HB1.out.trans (HB5.out.mono HB1.out.size))
      have i1 : (k : Int) < (rs.length : Int) := by omega
      have i2 : (rs.length : Int) ≤ (c : Int) := by omega
      have HWN : Hid (w.heap.size ≤ W5.heap.size) := Lib.hid HBW.out.size
      clear hrd hpos hs hget hW5 hWa0 hHl hrow hso
      go_wp2_with (first
        | ((with_reducible (refine wpList_load_cells 52 _ b (off + k * 33) (s.cells) RS Try.underlying52 rfl HIS.out ?_ rfl ?_ ?_)); (exact rfl); (exact rfl))
        | ((with_reducible (refine wpList_store_mid rfl _ _ _ rfl ?_ ?_ ?_ ?_ ?_ ?_ ?_ ?_ ?_)); (exact wr.heap.size); (exact 0); (exact (s.cells).toArray); (exact rfl); (exact rfl); (exact HTH.out); (exact HIA.out); (exact all_oneCell_toArray s.one); rw [HW5.out]))
      clear hWa RS
      obtain ⟨q, hq⟩ : ∃ q, decide (s.id = zeros32) = q := ⟨_, rfl⟩
      have HQ := Lib.hid hq
      have heq : ∀ w, (binOp .eql 25 (.agg (b8s s.id).toArray) (.agg #[Value.int .u8 0, Value.int .u8 0, Value.int .u8 0, Value.int .u8 0, Value.int .u8 0, Value.int .u8 0, Value.int .u8 0, Value.int .u8 0, Value.int .u8 0, Value.int .u8 0, Value.int .u8 0, Value.int .u8 0, Value.int .u8 0, Value.int .u8 0, Value.int .u8 0, Value.int .u8 0, Value.int .u8 0, Value.int .u8 0, Value.int .u8 0, Value.int .u8 0, Value.int .u8 0, Value.int .u8 0, Value.int .u8 0, Value.int .u8 0, Value.int .u8 0, Value.int .u8 0, Value.int .u8 0, Value.int .u8 0, Value.int .u8 0, Value.int .u8 0, Value.int .u8 0, Value.int .u8 0])).run Try.prog w = .ok (.bool q) w := fun w => by
        have := eql_id 25 Try.underlying25 s.id zeros32 HSO.out.1 rfl w
        rw [zeros32_cells] at this
        rw [this, HQ.out]
      have hgd : ∀ b x y w, (eqGuard b 25 x y (.agg (b8s s.id).toArray) (.agg #[Value.int .u8 0, Value.int .u8 0, Value.int .u8 0, Value.int .u8 0, Value.int .u8 0, Value.int .u8 0, Value.int .u8 0, Value.int .u8 0, Value.int .u8 0, Value.int .u8 0, Value.int .u8 0, Value.int .u8 0, Value.int .u8 0, Value.int .u8 0, Value.int .u8 0, Value.int .u8 0, Value.int .u8 0, Value.int .u8 0, Value.int .u8 0, Value.int .u8 0, Value.int .u8 0, Value.int .u8 0, Value.int .u8 0, Value.int .u8 0, Value.int .u8 0, Value.int .u8 0, Value.int .u8 0, Value.int .u8 0, Value.int .u8 0, Value.int .u8 0, Value.int .u8 0, Value.int .u8 0])).run Try.prog w = .ok () w := fun b x y w => guard_arr b 25 x y _ _ w (by kernel_rfl)
      clear hq
      refine wp_region_sched (fun w' => w'.cell? ⟨wr.heap.size, 0, none⟩ = some (.string s.name) ∧ Below W5.heap.size W5 w') [(true, 0), (true, 1), (false, 2), (true, 3), (true, 4), (true, 5), (true, 6), (true, 7), (true, 8), (true, 9), (true, 10), (true, 11), (true, 12), (true, 13), (true, 14), (true, 15), (true, 16), (true, 17), (true, 18), (true, 19), (true, 20), (true, 21), (true, 22), (true, 23), (true, 24)] (by kernel_rfl) (by kernel_rfl) rfl (by kernel_rfl) ⟨HC0.out, (Below.refl _ _).drew⟩ ?_
      (repeat (first | (refine wpS_pass _ rfl (by rfl) ?_; simp only [Act.put, List.getElem_toArray, List.getElem_cons_zero, List.getElem_cons_succ, List.setIfInBounds_toArray, List.set_cons_zero, List.set_cons_succ]) | (refine wpS_take _ ?_ rfl (by rfl) ?_ ?_; rotate_left; (focus (intro w' hS'; (try dsimp only at hS'); (repeat (have hS1 := hS'.1; replace hS' := hS'.2)); go_simp; (try with_reducible rfl); done)); simp only [Act.put, List.getElem_toArray, List.getElem_cons_zero, List.getElem_cons_succ, List.setIfInBounds_toArray, List.set_cons_zero, List.set_cons_succ])))
      refine wpS_do _ rfl (by rfl) (fun K hK => ?_)
      go_simp
      refine (name_any s.name HSO.out.2 _).mono ?_
      rintro e w3 ⟨rfl, hb3⟩
      have hb53 : Below W5.heap.size W5 w3 := (Below.refl _ _).drew.trans hb3
      refine hK.out _ _ ⟨cell_below HC0.out HHL.out hb53, hb53⟩ (fun hS => ?_)
      clear hK hS
      have HBX := Lib.hid (HBW.out.trans (hb53.mono HWN.out))
      cases c1 : nameS s.name
      · have C1 := Lib.hid c1
        clear c1
        (repeat (first | (refine wpS_pass _ rfl (by rfl) ?_; simp only [Act.put, List.getElem_toArray, List.getElem_cons_zero, List.getElem_cons_succ, List.setIfInBounds_toArray, List.set_cons_zero, List.set_cons_succ]) | (refine wpS_take _ ?_ rfl (by rfl) ?_ ?_; rotate_left; (focus (intro w' hS'; (try dsimp only at hS'); (repeat (have hS1 := hS'.1; replace hS' := hS'.2)); go_simp; (try with_reducible rfl); done)); simp only [Act.put, List.getElem_toArray, List.getElem_cons_zero, List.getElem_cons_succ, List.setIfInBounds_toArray, List.set_cons_zero, List.set_cons_succ])))
        refine wpS_done ?_
        go_wp2_with fail
        go_ret
        exact ⟨ret_bool (by rw [← HV.out]; unfold rightRefsB; rw [refsAll_bad k hlt (by rw [HGET.out, C1.out, Bool.false_and, Bool.false_and]), Bool.false_and]), HBX.out⟩
      · have C1 := Lib.hid c1
        clear c1
        (repeat (first | (refine wpS_pass _ rfl (by rfl) ?_; simp only [Act.put, List.getElem_toArray, List.getElem_cons_zero, List.getElem_cons_succ, List.setIfInBounds_toArray, List.set_cons_zero, List.set_cons_succ]) | (refine wpS_take _ ?_ rfl (by rfl) ?_ ?_; rotate_left; (focus (intro w' hS'; (try dsimp only at hS'); (repeat (have hS1 := hS'.1; replace hS' := hS'.2)); go_simp; (try with_reducible rfl); done)); simp only [Act.put, List.getElem_toArray, List.getElem_cons_zero, List.getElem_cons_succ, List.setIfInBounds_toArray, List.set_cons_zero, List.set_cons_succ])))
        refine wpS_load _ rfl (by rfl) _ _ rfl _ _ rfl (b8s s.id) _ (fun w' hS' => range_below HC1.out HHL.out hS'.2) Try.underlying25 rfl HIW.out ?_
        simp only [Act.put, List.getElem_toArray, List.getElem_cons_zero, List.getElem_cons_succ, List.setIfInBounds_toArray, List.set_cons_zero, List.set_cons_succ]
        (first | (refine wpS_pass _ rfl (by rfl) ?_; simp only [Act.put, List.getElem_toArray, List.getElem_cons_zero, List.getElem_cons_succ, List.setIfInBounds_toArray, List.set_cons_zero, List.set_cons_succ]) | (refine wpS_take _ ?_ rfl (by rfl) ?_ ?_; rotate_left; (focus (intro w' hS'; (try dsimp only at hS'); (repeat (have hS1 := hS'.1; replace hS' := hS'.2)); go_simp; (try with_reducible rfl); done)); simp only [Act.put, List.getElem_toArray, List.getElem_cons_zero, List.getElem_cons_succ, List.setIfInBounds_toArray, List.set_cons_zero, List.set_cons_succ]))
        refine wpS_take _ _ rfl (by rfl) (fun w' hS' => exec_bin _ _ _ _ _ rfl _ _ _ rfl rfl (hgd _ _ _ w') (heq w')) ?_
        simp only [Act.put, List.getElem_toArray, List.getElem_cons_zero, List.getElem_cons_succ, List.setIfInBounds_toArray, List.set_cons_zero, List.set_cons_succ]
        clear heq hgd
        cases q
        · by_cases hk0 : k = 0
          · have d3 : decide ((0 : Int) < (k : Int)) = false := decide_eq_false (by omega)
            (repeat (first | (refine wpS_pass _ rfl (by rfl) ?_; simp only [Act.put, List.getElem_toArray, List.getElem_cons_zero, List.getElem_cons_succ, List.setIfInBounds_toArray, List.set_cons_zero, List.set_cons_succ]) | (refine wpS_take _ ?_ rfl (by rfl) ?_ ?_; rotate_left; (focus (intro w' hS'; (try dsimp only at hS'); (repeat (have hS1 := hS'.1; replace hS' := hS'.2)); go_simp; (try with_reducible rfl); done)); simp only [Act.put, List.getElem_toArray, List.getElem_cons_zero, List.getElem_cons_succ, List.setIfInBounds_toArray, List.set_cons_zero, List.set_cons_succ])))
            refine wpS_done ?_
            go_wp2_with fail
            go_roundg (rs.length - (k + 1))
            case measure => omega
            case rel => exact ⟨k + 1, by omega, rfl, by first | rfl | exact congrArg (Value.int .i64) (by omega) | go_num, HBX, Lib.hid (fun j hj => by
              rcases Nat.lt_or_ge j k with h | h
              · exact HOK.out j h
              · obtain rfl : j = k := by omega
                rw [HGET.out, C1.out, HQ.out, hk0]; rfl)⟩
          · have d3 : decide ((0 : Int) < (k : Int)) = true := decide_eq_true (by omega)
            have d3n : 0 < k := by omega
            have d3m : decide (0 < k) = true := decide_eq_true d3n
            obtain ⟨j, hj⟩ : ∃ j, k = j + 1 := ⟨k - 1, by omega⟩
            have hjl : j < rs.length := by omega
            obtain ⟨p, hp⟩ : ∃ p, rs[j] = p := ⟨_, rfl⟩
            have RP := rd_ref HRD5.out HO.out j hjl
            rw [hp] at RP
            have HPC : Hid (∀ w', Below W5.heap.size W5 w' → w'.cell? ⟨b, off + j * 33, none⟩ = some (.string p.name)) := Lib.hid (fun w' hb => cell_below (ref_cell0 RP) GL.out hb)
            have HPV : Hid (prevLess rs s k = nameLt p.name s.name) := Lib.hid (by rw [hj, prevLess_succ _ _ _ hjl, hp])
            have hsub := fun w => bin_sub (P := Try.prog) (t := 3) (k : Int) 1 (j : Int) w (by omega) (by omega) (by omega)
            have l1 : (j : Int) < (rs.length : Int) := by omega
            clear hp RP hj
            (first | (refine wpS_pass _ rfl (by rfl) ?_; simp only [Act.put, List.getElem_toArray, List.getElem_cons_zero, List.getElem_cons_succ, List.setIfInBounds_toArray, List.set_cons_zero, List.set_cons_succ]) | (refine wpS_take _ ?_ rfl (by rfl) ?_ ?_; rotate_left; (focus (intro w' hS'; (try dsimp only at hS'); (repeat (have hS1 := hS'.1; replace hS' := hS'.2)); go_simp; (try with_reducible rfl); done)); simp only [Act.put, List.getElem_toArray, List.getElem_cons_zero, List.getElem_cons_succ, List.setIfInBounds_toArray, List.set_cons_zero, List.set_cons_succ]))
            (first | (refine wpS_pass _ rfl (by rfl) ?_; simp only [Act.put, List.getElem_toArray, List.getElem_cons_zero, List.getElem_cons_succ, List.setIfInBounds_toArray, List.set_cons_zero, List.set_cons_succ]) | (refine wpS_take _ ?_ rfl (by rfl) ?_ ?_; rotate_left; (focus (intro w' hS'; (try dsimp only at hS'); (repeat (have hS1 := hS'.1; replace hS' := hS'.2)); go_simp; (try with_reducible rfl); done)); simp only [Act.put, List.getElem_toArray, List.getElem_cons_zero, List.getElem_cons_succ, List.setIfInBounds_toArray, List.set_cons_zero, List.set_cons_succ]))
            (first | (refine wpS_pass _ rfl (by rfl) ?_; simp only [Act.put, List.getElem_toArray, List.getElem_cons_zero, List.getElem_cons_succ, List.setIfInBounds_toArray, List.set_cons_zero, List.set_cons_succ]) | (refine wpS_take _ ?_ rfl (by rfl) ?_ ?_; rotate_left; (focus (intro w' hS'; (try dsimp only at hS'); (repeat (have hS1 := hS'.1; replace hS' := hS'.2)); go_simp; (try with_reducible rfl); done)); simp only [Act.put, List.getElem_toArray, List.getElem_cons_zero, List.getElem_cons_succ, List.setIfInBounds_toArray, List.set_cons_zero, List.set_cons_succ]))
            (first | (refine wpS_pass _ rfl (by rfl) ?_; simp only [Act.put, List.getElem_toArray, List.getElem_cons_zero, List.getElem_cons_succ, List.setIfInBounds_toArray, List.set_cons_zero, List.set_cons_succ]) | (refine wpS_take _ ?_ rfl (by rfl) ?_ ?_; rotate_left; (focus (intro w' hS'; (try dsimp only at hS'); (repeat (have hS1 := hS'.1; replace hS' := hS'.2)); go_simp; (try with_reducible rfl); done)); simp only [Act.put, List.getElem_toArray, List.getElem_cons_zero, List.getElem_cons_succ, List.setIfInBounds_toArray, List.set_cons_zero, List.set_cons_succ]))
            (first | (refine wpS_pass _ rfl (by rfl) ?_; simp only [Act.put, List.getElem_toArray, List.getElem_cons_zero, List.getElem_cons_succ, List.setIfInBounds_toArray, List.set_cons_zero, List.set_cons_succ]) | (refine wpS_take _ ?_ rfl (by rfl) ?_ ?_; rotate_left; (focus (intro w' hS'; (try dsimp only at hS'); (repeat (have hS1 := hS'.1; replace hS' := hS'.2)); go_simp; (try with_reducible rfl); done)); simp only [Act.put, List.getElem_toArray, List.getElem_cons_zero, List.getElem_cons_succ, List.setIfInBounds_toArray, List.set_cons_zero, List.set_cons_succ]))
            (first | (refine wpS_pass _ rfl (by rfl) ?_; simp only [Act.put, List.getElem_toArray, List.getElem_cons_zero, List.getElem_cons_succ, List.setIfInBounds_toArray, List.set_cons_zero, List.set_cons_succ]) | (refine wpS_take _ ?_ rfl (by rfl) ?_ ?_; rotate_left; (focus (intro w' hS'; (try dsimp only at hS'); (repeat (have hS1 := hS'.1; replace hS' := hS'.2)); go_simp; (try with_reducible rfl); done)); simp only [Act.put, List.getElem_toArray, List.getElem_cons_zero, List.getElem_cons_succ, List.setIfInBounds_toArray, List.set_cons_zero, List.set_cons_succ]))
            (first | (refine wpS_pass _ rfl (by rfl) ?_; simp only [Act.put, List.getElem_toArray, List.getElem_cons_zero, List.getElem_cons_succ, List.setIfInBounds_toArray, List.set_cons_zero, List.set_cons_succ]) | (refine wpS_take _ ?_ rfl (by rfl) ?_ ?_; rotate_left; (focus (intro w' hS'; (try dsimp only at hS'); (repeat (have hS1 := hS'.1; replace hS' := hS'.2)); go_simp; (try with_reducible rfl); done)); simp only [Act.put, List.getElem_toArray, List.getElem_cons_zero, List.getElem_cons_succ, List.setIfInBounds_toArray, List.set_cons_zero, List.set_cons_succ]))
            refine wpS_take _ _ rfl (by rfl) (fun w' hS' => exec_bin _ _ _ _ _ rfl _ _ _ rfl rfl rfl (hsub w')) ?_
            simp only [Act.put, List.getElem_toArray, List.getElem_cons_zero, List.getElem_cons_succ, List.setIfInBounds_toArray, List.set_cons_zero, List.set_cons_succ]
            clear hsub
            (first | (refine wpS_pass _ rfl (by rfl) ?_; simp only [Act.put, List.getElem_toArray, List.getElem_cons_zero, List.getElem_cons_succ, List.setIfInBounds_toArray, List.set_cons_zero, List.set_cons_succ]) | (refine wpS_take _ ?_ rfl (by rfl) ?_ ?_; rotate_left; (focus (intro w' hS'; (try dsimp only at hS'); (repeat (have hS1 := hS'.1; replace hS' := hS'.2)); go_simp; (try with_reducible rfl); done)); simp only [Act.put, List.getElem_toArray, List.getElem_cons_zero, List.getElem_cons_succ, List.setIfInBounds_toArray, List.set_cons_zero, List.set_cons_succ]))
            (first | (refine wpS_pass _ rfl (by rfl) ?_; simp only [Act.put, List.getElem_toArray, List.getElem_cons_zero, List.getElem_cons_succ, List.setIfInBounds_toArray, List.set_cons_zero, List.set_cons_succ]) | (refine wpS_take _ ?_ rfl (by rfl) ?_ ?_; rotate_left; (focus (intro w' hS'; (try dsimp only at hS'); (repeat (have hS1 := hS'.1; replace hS' := hS'.2)); go_simp; (try with_reducible rfl); done)); simp only [Act.put, List.getElem_toArray, List.getElem_cons_zero, List.getElem_cons_succ, List.setIfInBounds_toArray, List.set_cons_zero, List.set_cons_succ]))
            refine wpS_take _ (.string p.name) rfl (by rfl) (fun w' hS' => by have hq := HPC.out w' hS'.2; go_simp) ?_
            simp only [Act.put, List.getElem_toArray, List.getElem_cons_zero, List.getElem_cons_succ, List.setIfInBounds_toArray, List.set_cons_zero, List.set_cons_succ]
            cases c3 : nameLt p.name s.name
            · have C3 := Lib.hid c3
              have hbl : Op.bytesLess p.name.toList s.name.toList = false := c3
              clear c3
              (repeat (first | (refine wpS_pass _ rfl (by rfl) ?_; simp only [Act.put, List.getElem_toArray, List.getElem_cons_zero, List.getElem_cons_succ, List.setIfInBounds_toArray, List.set_cons_zero, List.set_cons_succ]) | (refine wpS_take _ ?_ rfl (by rfl) ?_ ?_; rotate_left; (focus (intro w' hS'; (try dsimp only at hS'); (repeat (have hS1 := hS'.1; replace hS' := hS'.2)); go_simp; (try with_reducible rfl); done)); simp only [Act.put, List.getElem_toArray, List.getElem_cons_zero, List.getElem_cons_succ, List.setIfInBounds_toArray, List.set_cons_zero, List.set_cons_succ])))
              refine wpS_done ?_
              clear hbl
              go_wp2_with fail
              go_ret
              exact ⟨ret_bool (by rw [← HV.out]; unfold rightRefsB; rw [refsAll_bad k hlt (by rw [HGET.out, HPV.out, C3.out, Bool.and_false]), Bool.false_and]), HBX.out⟩
            · have C3 := Lib.hid c3
              have hbl : Op.bytesLess p.name.toList s.name.toList = true := c3
              clear c3
              (repeat (first | (refine wpS_pass _ rfl (by rfl) ?_; simp only [Act.put, List.getElem_toArray, List.getElem_cons_zero, List.getElem_cons_succ, List.setIfInBounds_toArray, List.set_cons_zero, List.set_cons_succ]) | (refine wpS_take _ ?_ rfl (by rfl) ?_ ?_; rotate_left; (focus (intro w' hS'; (try dsimp only at hS'); (repeat (have hS1 := hS'.1; replace hS' := hS'.2)); go_simp; (try with_reducible rfl); done)); simp only [Act.put, List.getElem_toArray, List.getElem_cons_zero, List.getElem_cons_succ, List.setIfInBounds_toArray, List.set_cons_zero, List.set_cons_succ])))
              refine wpS_done ?_
              clear hbl
              go_wp2_with fail
              go_roundg (rs.length - (k + 1))
              case measure => omega
              case rel => exact ⟨k + 1, by omega, rfl, by first | rfl | exact congrArg (Value.int .i64) (by omega) | go_num, HBX, Lib.hid (fun j hj => by
                rcases Nat.lt_or_ge j k with h | h
                · exact HOK.out j h
                · obtain rfl : j = k := by omega
                  rw [HGET.out, C1.out, HQ.out, HPV.out, C3.out]; rfl)⟩
        · (repeat (first | (refine wpS_pass _ rfl (by rfl) ?_; simp only [Act.put, List.getElem_toArray, List.getElem_cons_zero, List.getElem_cons_succ, List.setIfInBounds_toArray, List.set_cons_zero, List.set_cons_succ]) | (refine wpS_take _ ?_ rfl (by rfl) ?_ ?_; rotate_left; (focus (intro w' hS'; (try dsimp only at hS'); (repeat (have hS1 := hS'.1; replace hS' := hS'.2)); go_simp; (try with_reducible rfl); done)); simp only [Act.put, List.getElem_toArray, List.getElem_cons_zero, List.getElem_cons_succ, List.setIfInBounds_toArray, List.set_cons_zero, List.set_cons_succ])))
          refine wpS_done ?_
          go_wp2_with fail
          go_ret
          exact ⟨ret_bool (by rw [← HV.out]; unfold rightRefsB; rw [refsAll_bad k hlt (by rw [HGET.out, HQ.out, Bool.not_true, Bool.and_false, Bool.false_and]), Bool.false_and]), HBX.out⟩
    · obtain rfl : k = rs.length := by omega
      have hall := refsAll_all HOK.out
      have HALL := Lib.hid hall
      clear hall
      go_wp2_with fail
      go_ret
      exact ⟨ret_bool (by rw [← HV.out]; unfold rightRefsB; rw [HALL.out, Bool.true_and]; simp; omega), HB1.out⟩
end Go.Proofs.Ytfjfidhhmidflaa
