
/- Lists of refs and of IDs held against each other; bytes.Equal. (Printed by wip/genL2.py.) -/

import Derived.Test.YtfjfidhhmidflaaLet1

namespace Go.Proofs.Ytfjfidhhmidflaa

set_option linter.unusedVariables false

set_option linter.unusedSimpArgs false

open Go.RowKit

theorem lst_same {α : Type} {a b : List α} (hl : a.length = b.length) (h : ∀ j (h1 : j < a.length) (h2 : j < b.length), a[j] = b[j]) : a = b := List.ext_getElem hl (fun i h1 h2 => h i h1 h2)
theorem eqin_id (t : TypeId) (ht : Try.prog.underlying t = some (.array 32 5)) (dd : Nat) (d e : List UInt8) (h : d.length = 32) (h' : e.length = 32) (w : World) : (Op.equalIn (dd + 2) t (.agg (b8s d).toArray) (.agg (b8s e).toArray)).run Try.prog w = .ok (decide (d = e)) w := by
  obtain ⟨i, hi⟩ := Option.isSome_iff_exists.1 (show (Try.prog.info? 5).isSome = true by kernel_rfl)
  exact run_eq_bytes (P := Try.prog) (t := t) (e := 5) (n := 32) dd d e w ht Try.underlying5 hi (by kernel_rfl) (by kernel_rfl) h h'
theorem eql_id (t : TypeId) (ht : Try.prog.underlying t = some (.array 32 5)) (d e : List UInt8) (h : d.length = 32) (h' : e.length = 32) (w : World) : (binOp .eql t (.agg (b8s d).toArray) (.agg (b8s e).toArray)).run Try.prog w = .ok (.bool (decide (d = e))) w :=
  run_eql_ids (P := Try.prog) (t := t) (e := 5) (n := 32) ht Try.underlying5 (by kernel_rfl) (by kernel_rfl) (by kernel_rfl) d e h h' w
theorem neq_id (t : TypeId) (ht : Try.prog.underlying t = some (.array 32 5)) (d e : List UInt8) (h : d.length = 32) (h' : e.length = 32) (w : World) : (binOp .neq t (.agg (b8s d).toArray) (.agg (b8s e).toArray)).run Try.prog w = .ok (.bool (!decide (d = e))) w :=
  run_neq_ids (P := Try.prog) (t := t) (e := 5) (n := 32) ht Try.underlying5 (by kernel_rfl) (by kernel_rfl) (by kernel_rfl) d e h h' w
theorem guard_arr (b : BinOp) (t : TypeId) (x y : Operand) (xs ys : Array Value) (w : World) (h : Try.prog.eqGuardType Try.prog.depth t = false) : (eqGuard b t x y (.agg xs) (.agg ys)).run Try.prog w = .ok () w := run_eqGuard_agg w b t x y xs ys h
theorem names_eq (a b : ByteArray) : (a.toList == b.toList) = decide (a = b) := by
  rw [ByteArray.toList_eq, ByteArray.toList_eq]
  by_cases h : a = b
  · subst h; simp
  · have h2 : ¬ a.data = b.data := fun e => h (by
      obtain ⟨x⟩ := a
      obtain ⟨y⟩ := b
      simp at e
      rw [e])
    simp [h, h2]

theorem eqfields_ref {P : Program} {S I E : TypeId} {d : Nat} (n m : ByteArray) (a b : List UInt8) (ha : a.length = 32) (hb : b.length = 32) (w : World) (hS : P.underlying S = some .string) (hSp : P.plainKey S = true)
    (hI : P.underlying I = some (.array 32 E)) (hE : P.underlying E = some (.int .u8)) {i j : TypeInfo} (hi : P.info? I = some i) (hj : P.info? E = some j) (hc : P.cellsOf I = 32) (hcE : P.cellsOf E = 1) (hk : P.plainKey E = true) :
    ∀ fs : List Field, fs.map (fun f => (f.name != "_", f.type, f.offset)) = [(true, S, 0), (true, I, 1)] → (Op.eqFields (d + 2) (Value.string n :: b8s a).toArray (Value.string m :: b8s b).toArray fs).run P w = .ok (decide (n = m) && decide (a = b)) w := by
  intro fs hfs
  have p1 := part_arr (P := P) w hI hi hc (.string n) a ha
  have p2 := part_arr (P := P) w hI hi hc (.string m) b hb
  have p3 : (Go.part S (Value.string n :: b8s a).toArray 0).run P w = .ok (.string n) w := run_part_plain w hSp rfl
  have p4 : (Go.part S (Value.string m :: b8s b).toArray 0).run P w = .ok (.string m) w := run_part_plain w hSp rfl
  have p5 := run_eq_bytes (P := P) d a b w hI hE hj hcE hk ha hb
  have p6 := run_equalIn_string (P := P) w (d + 1) S n m hS
  rcases fs with _ | ⟨f, _ | ⟨g, _ | ⟨h, t⟩⟩⟩
  · simp at hfs
  · simp at hfs
  · simp only [List.map_cons, List.map_nil, List.cons.injEq, Prod.mk.injEq, and_true, bne_iff_ne] at hfs
    obtain ⟨⟨h1, h2, h3⟩, h4, h5, h6⟩ := hfs
    simp only [Op.eqFields, Sem.run_bind, Sem.run_ite, h1, h2, h3, h4, h5, h6, p1, p2, p3, p4, p5, p6, Result.andThen_ok, ne_eq, not_false_eq_true, if_true, names_eq]
    by_cases hn : n = m
    · subst hn
      by_cases hd : a = b
      · subst hd; simp [p1, p5]
      · simp [p1, p2, p5, hd]
    · simp [hn]
  · simp at hfs
theorem eqin_ref {P : Program} {T S I E : TypeId} {d : Nat} (r s : RefM) (hr : r.ok) (hs : s.ok) (w : World) (hT : P.underlying T = some (.struct (P.fieldsOf T))) (hp : P.stoodInHeld T = false) (hf : (P.fieldsOf T).toList.map (fun f => (f.name != "_", f.type, f.offset)) = [(true, S, 0), (true, I, 1)])
    (hS : P.underlying S = some .string) (hSp : P.plainKey S = true)
    (hI : P.underlying I = some (.array 32 E)) (hE : P.underlying E = some (.int .u8)) (hi : (P.info? I).isSome = true) (hj : (P.info? E).isSome = true) (hc : P.cellsOf I = 32) (hcE : P.cellsOf E = 1) (hk : P.plainKey E = true) :
    (Op.equalIn (d + 2 + 1) T (.agg r.cells.toArray) (.agg s.cells.toArray)).run P w = .ok (decide (r = s)) w := by
  obtain ⟨i, hi⟩ := Option.isSome_iff_exists.1 hi
  obtain ⟨j, hj⟩ := Option.isSome_iff_exists.1 hj
  obtain ⟨n, a⟩ := r
  obtain ⟨m, b⟩ := s
  rw [run_equalIn_struct w (d + 2) T _ _ hT hp]
  have := eqfields_ref (d := d) n m a b hr.1 hs.1 w hS hSp hI hE hi hj hc hcE hk _ hf
  rw [show (RefM.mk n a).cells = Value.string n :: b8s a from rfl, show (RefM.mk m b).cells = Value.string m :: b8s b from rfl, this]
  simp [RefM.mk.injEq]

set_option maxRecDepth 100000 in
theorem neq_ref (r s : RefM) (hr : r.ok) (hs : s.ok) (w : World) : (binOp .neq 52 (.agg r.cells.toArray) (.agg s.cells.toArray)).run Try.prog w = .ok (.bool (!decide (r = s))) w := by
  have h := eqin_ref (P := Try.prog) (T := 52) (S := 9) (I := 25) (E := 5) (d := 9997) r s hr hs w (by kernel_rfl) (by kernel_rfl) (by kernel_rfl) Try.underlying9 (by kernel_rfl) Try.underlying25 Try.underlying5 (by kernel_rfl) (by kernel_rfl) (by kernel_rfl) (by kernel_rfl) (by kernel_rfl)
  rw [run_neq_struct, h]
  rfl

set_option maxRecDepth 100000 in
theorem neq_rref (r s : RefM) (hr : r.ok) (hs : s.ok) (w : World) : (binOp .neq 64 (.agg r.cells.toArray) (.agg s.cells.toArray)).run Try.prog w = .ok (.bool (!decide (r = s))) w := by
  have h := eqin_ref (P := Try.prog) (T := 64) (S := 9) (I := 24) (E := 5) (d := 9997) r s hr hs w (by kernel_rfl) (by kernel_rfl) (by kernel_rfl) Try.underlying9 (by kernel_rfl) Try.underlying24 Try.underlying5 (by kernel_rfl) (by kernel_rfl) (by kernel_rfl) (by kernel_rfl) (by kernel_rfl)
  rw [run_neq_struct, h]
  rfl

set_option maxRecDepth 100000 in
set_option maxHeartbeats 2000000 in
theorem eqrefs_any (A B : Option Addr) (os ps : List RefM) (c d : Nat) (w : World) (ha : Rd w A (rfc os)) (hb : Rd w B (rfc ps)) (hoo : rOk os) (hop : rOk ps) (hca : os.length ≤ c) (hcb : ps.length ≤ d) (hc : c ≤ 9223372036854775807) (hd : d ≤ 9223372036854775807) :
    Calls Try.prog 31 #[.slice A os.length c, .slice B ps.length d] w fun e w' => e = .returned (.bool (decide (os = ps))) ∧ Below w.heap.size w w' := by
  have HA := Lib.hid ha
  have HB := Lib.hid hb
  have HOO := Lib.hid hoo
  have HOP := Lib.hid hop
  clear ha hb hoo hop
  by_cases hl : os.length = ps.length
  · have hn : ((os.length : Int) != (ps.length : Int)) = false := by rw [hl]; simp
    have HLN := Lib.hid hl
    have hB0 := Below.refl w.heap.size w
    clear hl
    go_enter Try.func31, Try.ntmps31
    go_wp2_with fail
    go_loopg [13] (os.length * 1) (fun gk_ s wr => ∃ k : Nat, k ≤ os.length ∧ gk_ = os.length - k ∧ s = .int .i64 (k : Int) ∧ Below w.heap.size w wr ∧ Hid (∀ j (h1 : j < os.length) (h2 : j < ps.length), j < k → os[j] = ps[j]))
    case atStart => exact ⟨0, by omega, by omega, rfl, hB0, Lib.hid (fun j _ _ hj => absurd hj (Nat.not_lt_zero _))⟩
    case round =>
      clear hB0 hn
      obtain ⟨k, hk, rfl, rfl, hbel, HOK⟩ := hrel
      by_cases hlt : k < os.length
      · have hltp : k < ps.length := by have := HLN.out; omega
        have hpa : 0 < (rfc os).length := by rw [rfc_length HOO.out]; omega
        have hpb : 0 < (rfc ps).length := by rw [rfc_length HOP.out]; omega
        have ra := HA.out.below hbel
        have rb := HB.out.below hbel
        obtain ⟨b, off, hAe, _⟩ := ra.all hpa
        obtain ⟨b', off', hBe, _⟩ := rb.all hpb
        subst hAe hBe
        have RA := Lib.hid (rd_ref ra HOO.out k hlt)
        have RB := Lib.hid (rd_ref rb HOP.out k hltp)
        have GA := Lib.hid (ra.lt hpa)
        have GB := Lib.hid (rb.lt hpb)
        have OS := rOk_get HOO.out k hlt
        have OT := rOk_get HOP.out k hltp
        obtain ⟨s, hs⟩ : ∃ s, os[k] = s := ⟨_, rfl⟩
        obtain ⟨t, ht⟩ : ∃ t, ps[k] = t := ⟨_, rfl⟩
        rw [hs] at RA OS
        rw [ht] at RB OT
        have HS := Lib.hid hs
        have HT := Lib.hid ht
        have i1 : (k : Int) < (os.length : Int) := by omega
        have i2 : (k : Int) < (ps.length : Int) := by omega
        obtain ⟨q, hq⟩ : ∃ q, decide (s = t) = q := ⟨_, rfl⟩
        have HQ := Lib.hid hq
        have heq : ∀ w, (binOp .neq 52 (.agg (RefM.cells s).toArray) (.agg (RefM.cells t).toArray)).run Try.prog w = .ok (.bool (!q)) w := fun w => by rw [neq_ref _ _ OS OT, HQ.out]
        have hgd : ∀ b x y w, (eqGuard b 52 x y (.agg (RefM.cells s).toArray) (.agg (RefM.cells t).toArray)).run Try.prog w = .ok () w := fun b x y w => guard_arr b 52 x y _ _ w (by kernel_rfl)
        have IS : Hid ((Try.prog.info? 52).map (·.size) = some (RefM.cells s).length) := Lib.hid (by rw [RefM.len OS]; kernel_rfl)
        have IT : Hid ((Try.prog.info? 52).map (·.size) = some (RefM.cells t).length) := Lib.hid (by rw [RefM.len OT]; kernel_rfl)
        clear ra rb hs ht hpa hpb hq OS OT
        go_wp2_with fail
        refine wp_region_sched (fun w' => Below wr.heap.size wr w') [(true, 0), (true, 1), (true, 2), (true, 3), (true, 4), (true, 5), (true, 6), (true, 7), (true, 8)] (by kernel_rfl) (by kernel_rfl) rfl (by kernel_rfl) (Below.refl _ _).drew ?_
        (first | (refine wpS_pass _ rfl (by rfl) ?_; simp only [Act.put, List.getElem_toArray, List.getElem_cons_zero, List.getElem_cons_succ, List.setIfInBounds_toArray, List.set_cons_zero, List.set_cons_succ]) | (refine wpS_take _ ?_ rfl (by rfl) ?_ ?_; rotate_left; (focus (intro w' hS'; (try dsimp only at hS'); (repeat (have hS1 := hS'.1; replace hS' := hS'.2)); go_simp; (try with_reducible rfl); done)); simp only [Act.put, List.getElem_toArray, List.getElem_cons_zero, List.getElem_cons_succ, List.setIfInBounds_toArray, List.set_cons_zero, List.set_cons_succ]))
        (first | (refine wpS_pass _ rfl (by rfl) ?_; simp only [Act.put, List.getElem_toArray, List.getElem_cons_zero, List.getElem_cons_succ, List.setIfInBounds_toArray, List.set_cons_zero, List.set_cons_succ]) | (refine wpS_take _ ?_ rfl (by rfl) ?_ ?_; rotate_left; (focus (intro w' hS'; (try dsimp only at hS'); (repeat (have hS1 := hS'.1; replace hS' := hS'.2)); go_simp; (try with_reducible rfl); done)); simp only [Act.put, List.getElem_toArray, List.getElem_cons_zero, List.getElem_cons_succ, List.setIfInBounds_toArray, List.set_cons_zero, List.set_cons_succ]))
        (first | (refine wpS_pass _ rfl (by rfl) ?_; simp only [Act.put, List.getElem_toArray, List.getElem_cons_zero, List.getElem_cons_succ, List.setIfInBounds_toArray, List.set_cons_zero, List.set_cons_succ]) | (refine wpS_take _ ?_ rfl (by rfl) ?_ ?_; rotate_left; (focus (intro w' hS'; (try dsimp only at hS'); (repeat (have hS1 := hS'.1; replace hS' := hS'.2)); go_simp; (try with_reducible rfl); done)); simp only [Act.put, List.getElem_toArray, List.getElem_cons_zero, List.getElem_cons_succ, List.setIfInBounds_toArray, List.set_cons_zero, List.set_cons_succ]))
        refine wpS_load _ rfl (by rfl) _ _ rfl b (off + k * 33) rfl (RefM.cells s) _ (fun w' hS' => range_below RA.out GA.out hS') Try.underlying52 rfl IS.out ?_
        simp only [Act.put, List.getElem_toArray, List.getElem_cons_zero, List.getElem_cons_succ, List.setIfInBounds_toArray, List.set_cons_zero, List.set_cons_succ]
        (first | (refine wpS_pass _ rfl (by rfl) ?_; simp only [Act.put, List.getElem_toArray, List.getElem_cons_zero, List.getElem_cons_succ, List.setIfInBounds_toArray, List.set_cons_zero, List.set_cons_succ]) | (refine wpS_take _ ?_ rfl (by rfl) ?_ ?_; rotate_left; (focus (intro w' hS'; (try dsimp only at hS'); (repeat (have hS1 := hS'.1; replace hS' := hS'.2)); go_simp; (try with_reducible rfl); done)); simp only [Act.put, List.getElem_toArray, List.getElem_cons_zero, List.getElem_cons_succ, List.setIfInBounds_toArray, List.set_cons_zero, List.set_cons_succ]))
        (first | (refine wpS_pass _ rfl (by rfl) ?_; simp only [Act.put, List.getElem_toArray, List.getElem_cons_zero, List.getElem_cons_succ, List.setIfInBounds_toArray, List.set_cons_zero, List.set_cons_succ]) | (refine wpS_take _ ?_ rfl (by rfl) ?_ ?_; rotate_left; (focus (intro w' hS'; (try dsimp only at hS'); (repeat (have hS1 := hS'.1; replace hS' := hS'.2)); go_simp; (try with_reducible rfl); done)); simp only [Act.put, List.getElem_toArray, List.getElem_cons_zero, List.getElem_cons_succ, List.setIfInBounds_toArray, List.set_cons_zero, List.set_cons_succ]))
        (first | (refine wpS_pass _ rfl (by rfl) ?_; simp only [Act.put, List.getElem_toArray, List.getElem_cons_zero, List.getElem_cons_succ, List.setIfInBounds_toArray, List.set_cons_zero, List.set_cons_succ]) | (refine wpS_take _ ?_ rfl (by rfl) ?_ ?_; rotate_left; (focus (intro w' hS'; (try dsimp only at hS'); (repeat (have hS1 := hS'.1; replace hS' := hS'.2)); go_simp; (try with_reducible rfl); done)); simp only [Act.put, List.getElem_toArray, List.getElem_cons_zero, List.getElem_cons_succ, List.setIfInBounds_toArray, List.set_cons_zero, List.set_cons_succ]))
        refine wpS_load _ rfl (by rfl) _ _ rfl b' (off' + k * 33) rfl (RefM.cells t) _ (fun w' hS' => range_below RB.out GB.out hS') Try.underlying52 rfl IT.out ?_
        simp only [Act.put, List.getElem_toArray, List.getElem_cons_zero, List.getElem_cons_succ, List.setIfInBounds_toArray, List.set_cons_zero, List.set_cons_succ]
        refine wpS_take _ _ rfl (by rfl) (fun w' hS' => exec_bin _ _ _ _ _ rfl _ _ _ rfl rfl (hgd _ _ _ w') (heq w')) ?_
        simp only [Act.put, List.getElem_toArray, List.getElem_cons_zero, List.getElem_cons_succ, List.setIfInBounds_toArray, List.set_cons_zero, List.set_cons_succ]
        refine wpS_done ?_
        clear heq hgd
        cases q
        · go_wp2_with fail
          go_ret
          exact ⟨ret_bool (decide_eq_false (fun e => (of_decide_eq_false HQ.out) (by rw [← HS.out, ← HT.out]; simp only [e]))).symm, hbel.drew⟩
        · go_wp2_with fail
          go_roundg (os.length - (k + 1))
          case measure => omega
          case rel => exact ⟨k + 1, by omega, rfl, by first | rfl | exact congrArg (Value.int .i64) (by omega) | go_num, hbel.drew, Lib.hid (fun j h1 h2 hj => by
            rcases Nat.lt_or_ge j k with h | h
            · exact HOK.out j h1 h2 h
            · obtain rfl : j = k := by omega
              rw [HS.out, HT.out, of_decide_eq_true HQ.out])⟩
      · obtain rfl : k = os.length := by omega
        go_wp2_with fail
        go_ret
        exact ⟨ret_bool (decide_eq_true (lst_same HLN.out (fun j h1 h2 => HOK.out j h1 h2 h1))).symm, hbel⟩
  · have hn : ((os.length : Int) != (ps.length : Int)) = true := by rw [bne_iff_ne]; omega
    go_enter Try.func31, Try.ntmps31
    go_wp2_with fail
    go_ret
    exact ⟨ret_bool (decide_eq_false (fun e => hl (by rw [e]))).symm, Below.refl _ _⟩

set_option maxRecDepth 100000 in
set_option maxHeartbeats 2000000 in
theorem eqids_any (A B : Option Addr) (os ps : List (List UInt8)) (c d : Nat) (w : World) (ha : Rd w A (idc os)) (hb : Rd w B (idc ps)) (hoo : iOk os) (hop : iOk ps) (hca : os.length ≤ c) (hcb : ps.length ≤ d) (hc : c ≤ 9223372036854775807) (hd : d ≤ 9223372036854775807) :
    Calls Try.prog 32 #[.slice A os.length c, .slice B ps.length d] w fun e w' => e = .returned (.bool (decide (os = ps))) ∧ Below w.heap.size w w' := by
  have HA := Lib.hid ha
  have HB := Lib.hid hb
  have HOO := Lib.hid hoo
  have HOP := Lib.hid hop
  clear ha hb hoo hop
  by_cases hl : os.length = ps.length
  · have hn : ((os.length : Int) != (ps.length : Int)) = false := by rw [hl]; simp
    have HLN := Lib.hid hl
    have hB0 := Below.refl w.heap.size w
    clear hl
    go_enter Try.func32, Try.ntmps32
    go_wp2_with fail
    go_loopg [13] (os.length * 1) (fun gk_ s wr => ∃ k : Nat, k ≤ os.length ∧ gk_ = os.length - k ∧ s = .int .i64 (k : Int) ∧ Below w.heap.size w wr ∧ Hid (∀ j (h1 : j < os.length) (h2 : j < ps.length), j < k → os[j] = ps[j]))
    case atStart => exact ⟨0, by omega, by omega, rfl, hB0, Lib.hid (fun j _ _ hj => absurd hj (Nat.not_lt_zero _))⟩
    case round =>
      clear hB0 hn
      obtain ⟨k, hk, rfl, rfl, hbel, HOK⟩ := hrel
      by_cases hlt : k < os.length
      · have hltp : k < ps.length := by have := HLN.out; omega
        have hpa : 0 < (idc os).length := by rw [idc_length HOO.out]; omega
        have hpb : 0 < (idc ps).length := by rw [idc_length HOP.out]; omega
        have ra := HA.out.below hbel
        have rb := HB.out.below hbel
        obtain ⟨b, off, hAe, _⟩ := ra.all hpa
        obtain ⟨b', off', hBe, _⟩ := rb.all hpb
        subst hAe hBe
        have RA := Lib.hid (rd_id ra HOO.out k hlt)
        have RB := Lib.hid (rd_id rb HOP.out k hltp)
        have GA := Lib.hid (ra.lt hpa)
        have GB := Lib.hid (rb.lt hpb)
        have OS := iOk_get HOO.out k hlt
        have OT := iOk_get HOP.out k hltp
        obtain ⟨s, hs⟩ : ∃ s, os[k] = s := ⟨_, rfl⟩
        obtain ⟨t, ht⟩ : ∃ t, ps[k] = t := ⟨_, rfl⟩
        rw [hs] at RA OS
        rw [ht] at RB OT
        have HS := Lib.hid hs
        have HT := Lib.hid ht
        have i1 : (k : Int) < (os.length : Int) := by omega
        have i2 : (k : Int) < (ps.length : Int) := by omega
        obtain ⟨q, hq⟩ : ∃ q, decide (s = t) = q := ⟨_, rfl⟩
        have HQ := Lib.hid hq
        have heq : ∀ w, (binOp .neq 25 (.agg (b8s s).toArray) (.agg (b8s t).toArray)).run Try.prog w = .ok (.bool (!q)) w := fun w => by rw [neq_id 25 Try.underlying25 _ _ OS OT, HQ.out]
        have hgd : ∀ b x y w, (eqGuard b 25 x y (.agg (b8s s).toArray) (.agg (b8s t).toArray)).run Try.prog w = .ok () w := fun b x y w => guard_arr b 25 x y _ _ w (by kernel_rfl)
        have IS : Hid ((Try.prog.info? 25).map (·.size) = some (b8s s).length) := Lib.hid (by rw [(b8s_length _).trans OS]; kernel_rfl)
        have IT : Hid ((Try.prog.info? 25).map (·.size) = some (b8s t).length) := Lib.hid (by rw [(b8s_length _).trans OT]; kernel_rfl)
        clear ra rb hs ht hpa hpb hq OS OT
        go_wp2_with fail
        refine wp_region_sched (fun w' => Below wr.heap.size wr w') [(true, 0), (true, 1), (true, 2), (true, 3), (true, 4), (true, 5), (true, 6), (true, 7), (true, 8)] (by kernel_rfl) (by kernel_rfl) rfl (by kernel_rfl) (Below.refl _ _).drew ?_
        (first | (refine wpS_pass _ rfl (by rfl) ?_; simp only [Act.put, List.getElem_toArray, List.getElem_cons_zero, List.getElem_cons_succ, List.setIfInBounds_toArray, List.set_cons_zero, List.set_cons_succ]) | (refine wpS_take _ ?_ rfl (by rfl) ?_ ?_; rotate_left; (focus (intro w' hS'; (try dsimp only at hS'); (repeat (have hS1 := hS'.1; replace hS' := hS'.2)); go_simp; (try with_reducible rfl); done)); simp only [Act.put, List.getElem_toArray, List.getElem_cons_zero, List.getElem_cons_succ, List.setIfInBounds_toArray, List.set_cons_zero, List.set_cons_succ]))
        (first | (refine wpS_pass _ rfl (by rfl) ?_; simp only [Act.put, List.getElem_toArray, List.getElem_cons_zero, List.getElem_cons_succ, List.setIfInBounds_toArray, List.set_cons_zero, List.set_cons_succ]) | (refine wpS_take _ ?_ rfl (by rfl) ?_ ?_; rotate_left; (focus (intro w' hS'; (try dsimp only at hS'); (repeat (have hS1 := hS'.1; replace hS' := hS'.2)); go_simp; (try with_reducible rfl); done)); simp only [Act.put, List.getElem_toArray, List.getElem_cons_zero, List.getElem_cons_succ, List.setIfInBounds_toArray, List.set_cons_zero, List.set_cons_succ]))
        (first | (refine wpS_pass _ rfl (by rfl) ?_; simp only [Act.put, List.getElem_toArray, List.getElem_cons_zero, List.getElem_cons_succ, List.setIfInBounds_toArray, List.set_cons_zero, List.set_cons_succ]) | (refine wpS_take _ ?_ rfl (by rfl) ?_ ?_; rotate_left; (focus (intro w' hS'; (try dsimp only at hS'); (repeat (have hS1 := hS'.1; replace hS' := hS'.2)); go_simp; (try with_reducible rfl); done)); simp only [Act.put, List.getElem_toArray, List.getElem_cons_zero, List.getElem_cons_succ, List.setIfInBounds_toArray, List.set_cons_zero, List.set_cons_succ]))
        refine wpS_load _ rfl (by rfl) _ _ rfl b (off + k * 32) rfl (b8s s) _ (fun w' hS' => range_below RA.out GA.out hS') Try.underlying25 rfl IS.out ?_
        simp only [Act.put, List.getElem_toArray, List.getElem_cons_zero, List.getElem_cons_succ, List.setIfInBounds_toArray, List.set_cons_zero, List.set_cons_succ]
        (first | (refine wpS_pass _ rfl (by rfl) ?_; simp only [Act.put, List.getElem_toArray, List.getElem_cons_zero, List.getElem_cons_succ, List.setIfInBounds_toArray, List.set_cons_zero, List.set_cons_succ]) | (refine wpS_take _ ?_ rfl (by rfl) ?_ ?_; rotate_left; (focus (intro w' hS'; (try dsimp only at hS'); (repeat (have hS1 := hS'.1; replace hS' := hS'.2)); go_simp; (try with_reducible rfl); done)); simp only [Act.put, List.getElem_toArray, List.getElem_cons_zero, List.getElem_cons_succ, List.setIfInBounds_toArray, List.set_cons_zero, List.set_cons_succ]))
        (first | (refine wpS_pass _ rfl (by rfl) ?_; simp only [Act.put, List.getElem_toArray, List.getElem_cons_zero, List.getElem_cons_succ, List.setIfInBounds_toArray, List.set_cons_zero, List.set_cons_succ]) | (refine wpS_take _ ?_ rfl (by rfl) ?_ ?_; rotate_left; (focus (intro w' hS'; (try dsimp only at hS'); (repeat (have hS1 := hS'.1; replace hS' := hS'.2)); go_simp; (try with_reducible rfl); done)); simp only [Act.put, List.getElem_toArray, List.getElem_cons_zero, List.getElem_cons_succ, List.setIfInBounds_toArray, List.set_cons_zero, List.set_cons_succ]))
        (first | (refine wpS_pass _ rfl (by rfl) ?_; simp only [Act.put, List.getElem_toArray, List.getElem_cons_zero, List.getElem_cons_succ, List.setIfInBounds_toArray, List.set_cons_zero, List.set_cons_succ]) | (refine wpS_take _ ?_ rfl (by rfl) ?_ ?_; rotate_left; (focus (intro w' hS'; (try dsimp only at hS'); (repeat (have hS1 := hS'.1; replace hS' := hS'.2)); go_simp; (try with_reducible rfl); done)); simp only [Act.put, List.getElem_toArray, List.getElem_cons_zero, List.getElem_cons_succ, List.setIfInBounds_toArray, List.set_cons_zero, List.set_cons_succ]))
        refine wpS_load _ rfl (by rfl) _ _ rfl b' (off' + k * 32) rfl (b8s t) _ (fun w' hS' => range_below RB.out GB.out hS') Try.underlying25 rfl IT.out ?_
        simp only [Act.put, List.getElem_toArray, List.getElem_cons_zero, List.getElem_cons_succ, List.setIfInBounds_toArray, List.set_cons_zero, List.set_cons_succ]
        refine wpS_take _ _ rfl (by rfl) (fun w' hS' => exec_bin _ _ _ _ _ rfl _ _ _ rfl rfl (hgd _ _ _ w') (heq w')) ?_
        simp only [Act.put, List.getElem_toArray, List.getElem_cons_zero, List.getElem_cons_succ, List.setIfInBounds_toArray, List.set_cons_zero, List.set_cons_succ]
        refine wpS_done ?_
        clear heq hgd
        cases q
        · go_wp2_with fail
          go_ret
          exact ⟨ret_bool (decide_eq_false (fun e => (of_decide_eq_false HQ.out) (by rw [← HS.out, ← HT.out]; simp only [e]))).symm, hbel.drew⟩
        · go_wp2_with fail
          go_roundg (os.length - (k + 1))
          case measure => omega
          case rel => exact ⟨k + 1, by omega, rfl, by first | rfl | exact congrArg (Value.int .i64) (by omega) | go_num, hbel.drew, Lib.hid (fun j h1 h2 hj => by
            rcases Nat.lt_or_ge j k with h | h
            · exact HOK.out j h1 h2 h
            · obtain rfl : j = k := by omega
              rw [HS.out, HT.out, of_decide_eq_true HQ.out])⟩
      · obtain rfl : k = os.length := by omega
        go_wp2_with fail
        go_ret
        exact ⟨ret_bool (decide_eq_true (lst_same HLN.out (fun j h1 h2 => HOK.out j h1 h2 h1))).symm, hbel⟩
  · have hn : ((os.length : Int) != (ps.length : Int)) = true := by rw [bne_iff_ne]; omega
    go_enter Try.func32, Try.ntmps32
    go_wp2_with fail
    go_ret
    exact ⟨ret_bool (decide_eq_false (fun e => hl (by rw [e]))).symm, Below.refl _ _⟩

set_option maxRecDepth 100000 in
set_option maxHeartbeats 2000000 in
theorem reqids_any (A B : Option Addr) (os ps : List (List UInt8)) (c d : Nat) (w : World) (ha : Rd w A (idc os)) (hb : Rd w B (idc ps)) (hoo : iOk os) (hop : iOk ps) (hca : os.length ≤ c) (hcb : ps.length ≤ d) (hc : c ≤ 9223372036854775807) (hd : d ≤ 9223372036854775807) :
    Calls Try.prog 34 #[.slice A os.length c, .slice B ps.length d] w fun e w' => e = .returned (.bool (decide (os = ps))) ∧ Below w.heap.size w w' := by
  have HA := Lib.hid ha
  have HB := Lib.hid hb
  have HOO := Lib.hid hoo
  have HOP := Lib.hid hop
  clear ha hb hoo hop
  by_cases hl : os.length = ps.length
  · have hn : ((os.length : Int) != (ps.length : Int)) = false := by rw [hl]; simp
    have HLN := Lib.hid hl
    have hB0 := Below.refl w.heap.size w
    clear hl
    go_enter Try.func34, Try.ntmps34
    go_wp2_with fail
    go_loopg [5] (os.length * 1) (fun gk_ s wr => ∃ k : Nat, k ≤ os.length ∧ gk_ = os.length - k ∧ s = .int .i64 (k : Int) ∧ Below w.heap.size w wr ∧ Hid (∀ j (h1 : j < os.length) (h2 : j < ps.length), j < k → os[j] = ps[j]))
    case atStart => exact ⟨0, by omega, by omega, rfl, hB0, Lib.hid (fun j _ _ hj => absurd hj (Nat.not_lt_zero _))⟩
    case round =>
      clear hB0 hn
      obtain ⟨k, hk, rfl, rfl, hbel, HOK⟩ := hrel
      by_cases hlt : k < os.length
      · have hltp : k < ps.length := by have := HLN.out; omega
        have hpa : 0 < (idc os).length := by rw [idc_length HOO.out]; omega
        have hpb : 0 < (idc ps).length := by rw [idc_length HOP.out]; omega
        have ra := HA.out.below hbel
        have rb := HB.out.below hbel
        obtain ⟨b, off, hAe, _⟩ := ra.all hpa
        obtain ⟨b', off', hBe, _⟩ := rb.all hpb
        subst hAe hBe
        have RA := Lib.hid (rd_id ra HOO.out k hlt)
        have RB := Lib.hid (rd_id rb HOP.out k hltp)
        have GA := Lib.hid (ra.lt hpa)
        have GB := Lib.hid (rb.lt hpb)
        have OS := iOk_get HOO.out k hlt
        have OT := iOk_get HOP.out k hltp
        obtain ⟨s, hs⟩ : ∃ s, os[k] = s := ⟨_, rfl⟩
        obtain ⟨t, ht⟩ : ∃ t, ps[k] = t := ⟨_, rfl⟩
        rw [hs] at RA OS
        rw [ht] at RB OT
        have HS := Lib.hid hs
        have HT := Lib.hid ht
        have i1 : (k : Int) < (os.length : Int) := by omega
        have i2 : (k : Int) < (ps.length : Int) := by omega
        obtain ⟨q, hq⟩ : ∃ q, decide (s = t) = q := ⟨_, rfl⟩
        have HQ := Lib.hid hq
        have heq : ∀ w, (binOp .neq 24 (.agg (b8s s).toArray) (.agg (b8s t).toArray)).run Try.prog w = .ok (.bool (!q)) w := fun w => by rw [neq_id 24 Try.underlying24 _ _ OS OT, HQ.out]
        have hgd : ∀ b x y w, (eqGuard b 24 x y (.agg (b8s s).toArray) (.agg (b8s t).toArray)).run Try.prog w = .ok () w := fun b x y w => guard_arr b 24 x y _ _ w (by kernel_rfl)
        have IS : Hid ((Try.prog.info? 24).map (·.size) = some (b8s s).length) := Lib.hid (by rw [(b8s_length _).trans OS]; kernel_rfl)
        have IT : Hid ((Try.prog.info? 24).map (·.size) = some (b8s t).length) := Lib.hid (by rw [(b8s_length _).trans OT]; kernel_rfl)
        clear ra rb hs ht hpa hpb hq OS OT
        go_wp2_with fail
        refine wp_region_sched (fun w' => Below wr.heap.size wr w') [(true, 0), (true, 1), (true, 2), (true, 3), (true, 4), (true, 5), (true, 6), (true, 7), (true, 8)] (by kernel_rfl) (by kernel_rfl) rfl (by kernel_rfl) (Below.refl _ _).drew ?_
        (first | (refine wpS_pass _ rfl (by rfl) ?_; simp only [Act.put, List.getElem_toArray, List.getElem_cons_zero, List.getElem_cons_succ, List.setIfInBounds_toArray, List.set_cons_zero, List.set_cons_succ]) | (refine wpS_take _ ?_ rfl (by rfl) ?_ ?_; rotate_left; (focus (intro w' hS'; (try dsimp only at hS'); (repeat (have hS1 := hS'.1; replace hS' := hS'.2)); go_simp; (try with_reducible rfl); done)); simp only [Act.put, List.getElem_toArray, List.getElem_cons_zero, List.getElem_cons_succ, List.setIfInBounds_toArray, List.set_cons_zero, List.set_cons_succ]))
        (first | (refine wpS_pass _ rfl (by rfl) ?_; simp only [Act.put, List.getElem_toArray, List.getElem_cons_zero, List.getElem_cons_succ, List.setIfInBounds_toArray, List.set_cons_zero, List.set_cons_succ]) | (refine wpS_take _ ?_ rfl (by rfl) ?_ ?_; rotate_left; (focus (intro w' hS'; (try dsimp only at hS'); (repeat (have hS1 := hS'.1; replace hS' := hS'.2)); go_simp; (try with_reducible rfl); done)); simp only [Act.put, List.getElem_toArray, List.getElem_cons_zero, List.getElem_cons_succ, List.setIfInBounds_toArray, List.set_cons_zero, List.set_cons_succ]))
        (first | (refine wpS_pass _ rfl (by rfl) ?_; simp only [Act.put, List.getElem_toArray, List.getElem_cons_zero, List.getElem_cons_succ, List.setIfInBounds_toArray, List.set_cons_zero, List.set_cons_succ]) | (refine wpS_take _ ?_ rfl (by rfl) ?_ ?_; rotate_left; (focus (intro w' hS'; (try dsimp only at hS'); (repeat (have hS1 := hS'.1; replace hS' := hS'.2)); go_simp; (try with_reducible rfl); done)); simp only [Act.put, List.getElem_toArray, List.getElem_cons_zero, List.getElem_cons_succ, List.setIfInBounds_toArray, List.set_cons_zero, List.set_cons_succ]))
        refine wpS_load _ rfl (by rfl) _ _ rfl b (off + k * 32) rfl (b8s s) _ (fun w' hS' => range_below RA.out GA.out hS') Try.underlying24 rfl IS.out ?_
        simp only [Act.put, List.getElem_toArray, List.getElem_cons_zero, List.getElem_cons_succ, List.setIfInBounds_toArray, List.set_cons_zero, List.set_cons_succ]
        (first | (refine wpS_pass _ rfl (by rfl) ?_; simp only [Act.put, List.getElem_toArray, List.getElem_cons_zero, List.getElem_cons_succ, List.setIfInBounds_toArray, List.set_cons_zero, List.set_cons_succ]) | (refine wpS_take _ ?_ rfl (by rfl) ?_ ?_; rotate_left; (focus (intro w' hS'; (try dsimp only at hS'); (repeat (have hS1 := hS'.1; replace hS' := hS'.2)); go_simp; (try with_reducible rfl); done)); simp only [Act.put, List.getElem_toArray, List.getElem_cons_zero, List.getElem_cons_succ, List.setIfInBounds_toArray, List.set_cons_zero, List.set_cons_succ]))
        (first | (refine wpS_pass _ rfl (by rfl) ?_; simp only [Act.put, List.getElem_toArray, List.getElem_cons_zero, List.getElem_cons_succ, List.setIfInBounds_toArray, List.set_cons_zero, List.set_cons_succ]) | (refine wpS_take _ ?_ rfl (by rfl) ?_ ?_; rotate_left; (focus (intro w' hS'; (try dsimp only at hS'); (repeat (have hS1 := hS'.1; replace hS' := hS'.2)); go_simp; (try with_reducible rfl); done)); simp only [Act.put, List.getElem_toArray, List.getElem_cons_zero, List.getElem_cons_succ, List.setIfInBounds_toArray, List.set_cons_zero, List.set_cons_succ]))
        (first | (refine wpS_pass _ rfl (by rfl) ?_; simp only [Act.put, List.getElem_toArray, List.getElem_cons_zero, List.getElem_cons_succ, List.setIfInBounds_toArray, List.set_cons_zero, List.set_cons_succ]) | (refine wpS_take _ ?_ rfl (by rfl) ?_ ?_; rotate_left; (focus (intro w' hS'; (try dsimp only at hS'); (repeat (have hS1 := hS'.1; replace hS' := hS'.2)); go_simp; (try with_reducible rfl); done)); simp only [Act.put, List.getElem_toArray, List.getElem_cons_zero, List.getElem_cons_succ, List.setIfInBounds_toArray, List.set_cons_zero, List.set_cons_succ]))
        refine wpS_load _ rfl (by rfl) _ _ rfl b' (off' + k * 32) rfl (b8s t) _ (fun w' hS' => range_below RB.out GB.out hS') Try.underlying24 rfl IT.out ?_
        simp only [Act.put, List.getElem_toArray, List.getElem_cons_zero, List.getElem_cons_succ, List.setIfInBounds_toArray, List.set_cons_zero, List.set_cons_succ]
        refine wpS_take _ _ rfl (by rfl) (fun w' hS' => exec_bin _ _ _ _ _ rfl _ _ _ rfl rfl (hgd _ _ _ w') (heq w')) ?_
        simp only [Act.put, List.getElem_toArray, List.getElem_cons_zero, List.getElem_cons_succ, List.setIfInBounds_toArray, List.set_cons_zero, List.set_cons_succ]
        refine wpS_done ?_
        clear heq hgd
        cases q
        · go_wp2_with fail
          go_ret
          exact ⟨ret_bool (decide_eq_false (fun e => (of_decide_eq_false HQ.out) (by rw [← HS.out, ← HT.out]; simp only [e]))).symm, hbel.drew⟩
        · go_wp2_with fail
          go_roundg (os.length - (k + 1))
          case measure => omega
          case rel => exact ⟨k + 1, by omega, rfl, by first | rfl | exact congrArg (Value.int .i64) (by omega) | go_num, hbel.drew, Lib.hid (fun j h1 h2 hj => by
            rcases Nat.lt_or_ge j k with h | h
            · exact HOK.out j h1 h2 h
            · obtain rfl : j = k := by omega
              rw [HS.out, HT.out, of_decide_eq_true HQ.out])⟩
      · obtain rfl : k = os.length := by omega
        go_wp2_with fail
        go_ret
        exact ⟨ret_bool (decide_eq_true (lst_same HLN.out (fun j h1 h2 => HOK.out j h1 h2 h1))).symm, hbel⟩
  · have hn : ((os.length : Int) != (ps.length : Int)) = true := by rw [bne_iff_ne]; omega
    go_enter Try.func34, Try.ntmps34
    go_wp2_with fail
    go_ret
    exact ⟨ret_bool (decide_eq_false (fun e => hl (by rw [e]))).symm, Below.refl _ _⟩

/-- bytes.Equal -/
theorem bytes_eq (a b : List UInt8) : (ByteArray.toList ⟨a.toArray⟩ == ByteArray.toList ⟨b.toArray⟩) = decide (a = b) := by
  rw [ByteArray.toList_eq, ByteArray.toList_eq]
  by_cases h : a = b <;> simp [h]
set_option maxRecDepth 100000 in
theorem beq_any (A B : Option Addr) (a b : List UInt8) (c d : Nat) (w : World) (ha : Rd w A (b8s a)) (hb : Rd w B (b8s b)) :
    Calls Try.prog 33 #[.slice A a.length c, .slice B b.length d] w fun e w' => e = .returned (.bool (decide (a = b))) ∧ Below w.heap.size w w' := by
  have h1 : (convert 26 9 (.slice A a.length c)).run Try.prog w = .ok (.string ⟨a.toArray⟩) w := run_str_of_bytes _ _ rfl Try.underlying26 Try.underlying5 Try.underlying9 ha
  have h2 : (convert 26 9 (.slice B b.length d)).run Try.prog w = .ok (.string ⟨b.toArray⟩) w := run_str_of_bytes _ _ rfl Try.underlying26 Try.underlying5 Try.underlying9 hb
  have h3 := bytes_eq a b
  clear ha hb
  go_enter Try.func33, Try.ntmps33
  go_wp2_with fail
  go_ret
  exact ⟨ret_bool (by by_cases h : a = b <;> simp [h]), Below.refl _ _⟩
end Go.Proofs.Ytfjfidhhmidflaa
