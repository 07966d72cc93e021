
/- Read: kind 2. (Printed by wip/genL16.py.) -/

import Derived.Test.YtfjfidhhmidflaaLet16

namespace Go.Proofs.Ytfjfidhhmidflaa

set_option linter.unusedVariables false

set_option linter.unusedSimpArgs false

open Go.RowKit


theorem own_blk {A : Option Addr} {n c b : Nat} (h : (Value.slice A n c).ownBlock = some b) : ∃ ad, A = some ad ∧ ad.block = b := by
  cases A with
  | none => simp [Value.ownBlock] at h
  | some ad => exact ⟨ad, rfl, by simpa [Value.ownBlock] using h⟩
section

variable {w W W' : World} {r K g2 g7 lo : Nat} {st : St} {l : Lt} {p : LtP} {k f u s o tt : Int} {rs : List RefM} {pk : List UInt8} {A A' : Option Addr} {c c' : Nat} {x : RefM}

/-- another row of the call's own is written -/
theorem RI.free {y : Nat} (h : RI w W r K g2 g7 lo st ⟨k, f, u, s, rs, [], [], o, tt, pk, []⟩ ⟨A, c, none, 0, none, 0, none, 0⟩) (hg : W.grownBy W' (some y)) (hy : lo ≤ y) (hp : ∀ ad, A = some ad → ad.block ≠ y) : RI w W' r K g2 g7 lo st ⟨k, f, u, s, rs, [], [], o, tt, pk, []⟩ ⟨A, c, none, 0, none, 0, none, 0⟩ := by
  obtain ⟨n1, n2, n3, n4, n5, n6, n7, n8, n9, n10, n11, n12⟩ := h.ne
  refine ⟨h.m.far (by omega) (by omega) hg, (hg.block _ (Array.getElem?_eq_some_iff.1 h.r2).1 (by simp; omega)).trans h.r2, (hg.block _ (Array.getElem?_eq_some_iff.1 h.r7).1 (by simp; omega)).trans h.r7, bel_grown h.bw h.bw.size hg (by omega),
    ⟨n1, n2, n3, n4, n5, n6, n7, n8, n9, n10, n11, Nat.le_trans n12 hg.size⟩, ⟨own_keep h.li.o1 (fun b hb hlt => hg.block b hlt ?_), World.ownsRow_nil _ _ _ _, World.ownsRow_nil _ _ _ _, ⟨Rd.nil, h.li.d.2⟩, h.li.ok⟩⟩
  obtain ⟨ad, e1, e2⟩ := own_blk hb
  have := hp ad e1
  simp
  omega
/-- a ref is appended -/
theorem RI.appref (h : RI w W r K g2 g7 lo st ⟨k, f, u, s, rs, [], [], o, tt, pk, []⟩ ⟨A, c, none, 0, none, 0, none, 0⟩) (hg : W.grownBy W' (Value.slice A rs.length c).ownBlock)
    (ho : W'.ownsRow lo 52 33 (.slice A' (rs ++ [x]).length c') (rs ++ [x]).length (rfc (rs ++ [x]))) (hx : x.ok) :
    W'.cell? ⟨g7, 4, none⟩ = some (.slice A rs.length c) ∧ W'.frozen? ⟨g7, 4, none⟩ = false ∧ RI w (W'.setCell ⟨g7, 4, none⟩ (.slice A' (rs ++ [x]).length c')) r K g2 g7 lo st ⟨k, f, u, s, rs ++ [x], [], [], o, tt, pk, []⟩ ⟨A', c', none, 0, none, 0, none, 0⟩ := by
  obtain ⟨n1, n2, n3, n4, n5, n6, n7, n8, n9, n10, n11, n12⟩ := h.ne
  have hb : ∀ b, (Value.slice A rs.length c).ownBlock = some b → lo ≤ b := fun b e => (h.li.o1.lt b e).1
  have hgg : ∀ i, i < lo → i < W.heap.size → W'.heap[i]? = W.heap[i]? := fun i hi hl => hg.block i hl (fun e => by have := hb i e.symm; omega)
  have q7 := (hgg g7 n6 (Array.getElem?_eq_some_iff.1 h.r7).1).trans h.r7
  have q2 := (hgg g2 n5 (Array.getElem?_eq_some_iff.1 h.r2).1).trans h.r2
  have hm := h.m.own (fun b e => ⟨by have := hb b e; omega, by have := hb b e; omega⟩) hg
  have hbw : Below w.heap.size w W' := by
    cases hv : (Value.slice A rs.length c).ownBlock with
    | none => rw [hv] at hg; exact h.bw.trans ((grown_none hg).mono h.bw.size)
    | some b => rw [hv] at hg; exact bel_grown h.bw h.bw.size hg (by have := hb b hv; omega)
  have gr := grown_set (w := W') g7 4 (.slice A' (rs ++ [x]).length c')
  refine ⟨row_cell q7 4, row_free q7 4, hm.far (by omega) n10 gr, (gr.block _ (Array.getElem?_eq_some_iff.1 q2).1 (by simp; omega)).trans q2, row_refs q7 A' c' (rs ++ [x]), bel_grown hbw hbw.size gr n3,
    ⟨n1, n2, n3, n4, n5, n6, n7, n8, n9, n10, n11, Nat.le_trans n12 (Nat.le_trans hg.size gr.size)⟩, ⟨own_far ho n6 gr, World.ownsRow_nil _ _ _ _, World.ownsRow_nil _ _ _ _, ⟨Rd.nil, h.li.d.2⟩, ⟨fun y hy => ?_, h.li.ok.2.1, h.li.ok.2.2.1, h.li.ok.2.2.2⟩⟩⟩
  rcases List.mem_append.1 hy with hy | hy
  · exact h.li.ok.1 y hy
  · rw [List.mem_singleton.1 hy]; exact hx
end

theorem info_ref1 : (Try.prog.info? 52).map (fun i => (i.size, i.zero.isSome)) = some (33, true) := by kernel_rfl
theorem info_ref2 : (Try.prog.info? 52).map (fun i => (i.zero, i.size, i.bytes)) = some (some (.agg refZ.toArray), 33, 48) := by unfold refZ; rw [zeros32_cells]; kernel_rfl
theorem ref_set_id {W : World} {g : Nat} {t : TypeId} {S : ByteArray} {a b : List UInt8} (h : W.heap[g]? = some (.cells (RefM.mk S a).cells.toArray t (0, 0))) (hl : a.length = b.length) : (W.setCells g 1 (b8s b)).heap[g]? = some (.cells (RefM.mk S b).cells.toArray t (0, 0)) := by
  have h0 : W.heap[g]? = some (.cells (([.string S] : List Value) ++ b8s a ++ ([] : List Value)).toArray t (0, 0)) := by rw [h]; congr 2; simp [RefM.cells]
  have := row_setCells (b8s b) _ _ _ _ h0 (by rw [b8s_length, b8s_length, hl])
  refine Eq.trans this ?_
  congr 2
  simp [RefM.cells]

set_option maxRecDepth 100000 in
set_option maxHeartbeats 8000000 in
theorem read_2 (A : Option Addr) (bs : List UInt8) (c : Nat) (w : World) (hr : Rd w A (b8s bs)) (hc : bs.length ≤ c) (hc2 : c ≤ 9223372036854775807) (h4 : ¬ bs.length < 4) (h6 : ¬ 65536 < bs.length) (hsum : (getFour (some (bs.drop (bs.length - 4)))).1 = (crc (bs.take (bs.length - 4))).toNat) (hkind : (getNum (some (bs.take (bs.length - 4))) 4).1 = 2) :
    Calls Try.prog 15 #[.slice A bs.length c] w fun e w' => RdOut w w' e (readL bs) := by
  obtain ⟨m, hm⟩ : ∃ m, bs.length = m + 4 := ⟨bs.length - 4, by omega⟩
  have e1 : bs.length - 4 = m := by omega
  have HLEN : Hid (¬ (bs.length < 4 ∨ 65536 < bs.length)) := Lib.hid (by omega)
  rw [e1] at hsum hkind
  obtain ⟨n, hn⟩ : ∃ n, bs.length = n := ⟨_, rfl⟩
  have HNM : Hid (n = m + 4) := Lib.hid (by omega)
  rw [hn]
  have HTK : Hid (bs.length - 4 = m) := Lib.hid e1
  obtain ⟨inn, hinn⟩ : ∃ l, bs.take m = l := ⟨_, rfl⟩
  obtain ⟨end_, hend⟩ : ∃ l, bs.drop m = l := ⟨_, rfl⟩
  rw [hinn, hend] at hsum
  rw [hinn] at hkind
  have HKD := Lib.hid hkind
  clear hkind
  have hil : inn.length = m := by rw [← hinn, List.length_take]; omega
  have hel : end_.length = 4 := by rw [← hend, List.length_drop]; omega
  have hr1 : Rd w A (b8s inn) := by
    have := hr.take m
    rwa [show (b8s bs).take m = b8s inn by rw [← hinn]; simp [b8s]] at this
  have hr2 : Rd w (if c = m then A else A.map (·.add m)) (b8s end_) := by
    have := hr.drop (k := m) (size := 1) (cap := c) (by rw [b8s_length]; omega)
    simpa [b8s, ← hend] using this
  obtain ⟨W1, hW1⟩ : ∃ W, w.alloc (.cells #[Value.int .i64 0, Value.int .i64 0, Value.int .i64 0, Value.int .i64 0, Value.slice none 0 0, Value.slice none 0 0, Value.slice none 0 0, Value.int .i64 0, Value.int .i64 0, Value.int .u8 0, Value.int .u8 0, Value.int .u8 0, Value.int .u8 0, Value.int .u8 0, Value.int .u8 0, Value.int .u8 0, Value.int .u8 0, Value.int .u8 0, Value.int .u8 0, Value.int .u8 0, Value.int .u8 0, Value.int .u8 0, Value.int .u8 0, Value.int .u8 0, Value.int .u8 0, Value.int .u8 0, Value.int .u8 0, Value.int .u8 0, Value.int .u8 0, Value.int .u8 0, Value.int .u8 0, Value.int .u8 0, Value.int .u8 0, Value.int .u8 0, Value.int .u8 0, Value.int .u8 0, Value.int .u8 0, Value.int .u8 0, Value.int .u8 0, Value.int .u8 0, Value.int .u8 0, Value.slice none 0 0] 28) = W := ⟨_, rfl⟩
  obtain ⟨q1, b1, s1⟩ := new_row hW1
  rw [← lt0_cells] at q1
  obtain ⟨g2, hg2⟩ : ∃ g, w.heap.size = g := ⟨_, rfl⟩
  rw [hg2] at q1
  have HQ1 := Lib.hid q1
  have HB1 := Lib.hid b1
  have HS1 : Hid (W1.heap.size = g2 + 1) := Lib.hid (by omega)
  have HG2 := Lib.hid hg2
  have HR1 := Lib.hid (hr1.below b1)
  have HR2 := Lib.hid (hr2.below b1)
  have HIL := Lib.hid hil
  have HEL := Lib.hid hel
  have HSUM := Lib.hid hsum
  have HINN := Lib.hid hinn
  have HEND := Lib.hid hend
  have hmc : n ≤ c := by omega
  have HM6 : Hid (m + 4 ≤ 65536) := Lib.hid (by omega)
  have hsub := fun w => bin_sub (P := Try.prog) (t := 3) (n : Int) 4 (m : Int) w (by omega) (by omega) (by omega)
  have hm4 : ¬ (n : Int) < 4 := by omega
  have hm7 : ¬ (65536 : Int) < (n : Int) := by omega
  have hmi : (m : Int) ≤ (c : Int) := by omega
  have hmj : (m : Int) ≤ (n : Int) := by omega
  clear hn e1 hinn hend hil hel hr1 hr2 hr q1 b1 s1 hsum hm h4 h6 hc
  go_enter Try.func15, Try.ntmps15
  go_wp2_with fail
  clear hg2 hW1
  refine wp_region_sched (fun w' => Below W1.heap.size W1 w') [(true, 0), (true, 1), (true, 2), (true, 3), (true, 4), (true, 5), (true, 6), (true, 7), (true, 8), (true, 9), (false, 10), (true, 11), (true, 12)] (by kernel_rfl) (by kernel_rfl) rfl (by kernel_rfl) (Below.refl _ _).drew ?_
  (first | (refine wpS_pass _ rfl (by rfl) ?_; simp only [Act.put, List.getElem_toArray, List.getElem_cons_zero, List.getElem_cons_succ, List.setIfInBounds_toArray, List.set_cons_zero, List.set_cons_succ]) | (refine wpS_take _ ?_ rfl (by rfl) ?_ ?_; rotate_left; (focus (intro w' hS'; (try dsimp only at hS'); (repeat (have hS1 := hS'.1; replace hS' := hS'.2)); go_simp; (try with_reducible rfl); done)); simp only [Act.put, List.getElem_toArray, List.getElem_cons_zero, List.getElem_cons_succ, List.setIfInBounds_toArray, List.set_cons_zero, List.set_cons_succ]))
  (first | (refine wpS_pass _ rfl (by rfl) ?_; simp only [Act.put, List.getElem_toArray, List.getElem_cons_zero, List.getElem_cons_succ, List.setIfInBounds_toArray, List.set_cons_zero, List.set_cons_succ]) | (refine wpS_take _ ?_ rfl (by rfl) ?_ ?_; rotate_left; (focus (intro w' hS'; (try dsimp only at hS'); (repeat (have hS1 := hS'.1; replace hS' := hS'.2)); go_simp; (try with_reducible rfl); done)); simp only [Act.put, List.getElem_toArray, List.getElem_cons_zero, List.getElem_cons_succ, List.setIfInBounds_toArray, List.set_cons_zero, List.set_cons_succ]))
  (first | (refine wpS_pass _ rfl (by rfl) ?_; simp only [Act.put, List.getElem_toArray, List.getElem_cons_zero, List.getElem_cons_succ, List.setIfInBounds_toArray, List.set_cons_zero, List.set_cons_succ]) | (refine wpS_take _ ?_ rfl (by rfl) ?_ ?_; rotate_left; (focus (intro w' hS'; (try dsimp only at hS'); (repeat (have hS1 := hS'.1; replace hS' := hS'.2)); go_simp; (try with_reducible rfl); done)); simp only [Act.put, List.getElem_toArray, List.getElem_cons_zero, List.getElem_cons_succ, List.setIfInBounds_toArray, List.set_cons_zero, List.set_cons_succ]))
  refine wpS_take _ _ rfl (by rfl) (fun w' hS' => exec_bin _ _ _ _ _ rfl _ _ _ rfl rfl rfl (hsub w')) ?_
  simp only [Act.put, List.getElem_toArray, List.getElem_cons_zero, List.getElem_cons_succ, List.setIfInBounds_toArray, List.set_cons_zero, List.set_cons_succ]
  (first | (refine wpS_pass _ rfl (by rfl) ?_; simp only [Act.put, List.getElem_toArray, List.getElem_cons_zero, List.getElem_cons_succ, List.setIfInBounds_toArray, List.set_cons_zero, List.set_cons_succ]) | (refine wpS_take _ ?_ rfl (by rfl) ?_ ?_; rotate_left; (focus (intro w' hS'; (try dsimp only at hS'); (repeat (have hS1 := hS'.1; replace hS' := hS'.2)); go_simp; (try with_reducible rfl); done)); simp only [Act.put, List.getElem_toArray, List.getElem_cons_zero, List.getElem_cons_succ, List.setIfInBounds_toArray, List.set_cons_zero, List.set_cons_succ]))
  (first | (refine wpS_pass _ rfl (by rfl) ?_; simp only [Act.put, List.getElem_toArray, List.getElem_cons_zero, List.getElem_cons_succ, List.setIfInBounds_toArray, List.set_cons_zero, List.set_cons_succ]) | (refine wpS_take _ ?_ rfl (by rfl) ?_ ?_; rotate_left; (focus (intro w' hS'; (try dsimp only at hS'); (repeat (have hS1 := hS'.1; replace hS' := hS'.2)); go_simp; (try with_reducible rfl); done)); simp only [Act.put, List.getElem_toArray, List.getElem_cons_zero, List.getElem_cons_succ, List.setIfInBounds_toArray, List.set_cons_zero, List.set_cons_succ]))
  (first | (refine wpS_pass _ rfl (by rfl) ?_; simp only [Act.put, List.getElem_toArray, List.getElem_cons_zero, List.getElem_cons_succ, List.setIfInBounds_toArray, List.set_cons_zero, List.set_cons_succ]) | (refine wpS_take _ ?_ rfl (by rfl) ?_ ?_; rotate_left; (focus (intro w' hS'; (try dsimp only at hS'); (repeat (have hS1 := hS'.1; replace hS' := hS'.2)); go_simp; (try with_reducible rfl); done)); simp only [Act.put, List.getElem_toArray, List.getElem_cons_zero, List.getElem_cons_succ, List.setIfInBounds_toArray, List.set_cons_zero, List.set_cons_succ]))
  (first | (refine wpS_pass _ rfl (by rfl) ?_; simp only [Act.put, List.getElem_toArray, List.getElem_cons_zero, List.getElem_cons_succ, List.setIfInBounds_toArray, List.set_cons_zero, List.set_cons_succ]) | (refine wpS_take _ ?_ rfl (by rfl) ?_ ?_; rotate_left; (focus (intro w' hS'; (try dsimp only at hS'); (repeat (have hS1 := hS'.1; replace hS' := hS'.2)); go_simp; (try with_reducible rfl); done)); simp only [Act.put, List.getElem_toArray, List.getElem_cons_zero, List.getElem_cons_succ, List.setIfInBounds_toArray, List.set_cons_zero, List.set_cons_succ]))
  refine wpS_take _ _ rfl (by rfl) (fun w' hS' => exec_bin _ _ _ _ _ rfl _ _ _ rfl rfl rfl (hsub w')) ?_
  simp only [Act.put, List.getElem_toArray, List.getElem_cons_zero, List.getElem_cons_succ, List.setIfInBounds_toArray, List.set_cons_zero, List.set_cons_succ]
  clear hsub
  (first | (refine wpS_pass _ rfl (by rfl) ?_; simp only [Act.put, List.getElem_toArray, List.getElem_cons_zero, List.getElem_cons_succ, List.setIfInBounds_toArray, List.set_cons_zero, List.set_cons_succ]) | (refine wpS_take _ ?_ rfl (by rfl) ?_ ?_; rotate_left; (focus (intro w' hS'; (try dsimp only at hS'); (repeat (have hS1 := hS'.1; replace hS' := hS'.2)); go_simp; (try with_reducible rfl); done)); simp only [Act.put, List.getElem_toArray, List.getElem_cons_zero, List.getElem_cons_succ, List.setIfInBounds_toArray, List.set_cons_zero, List.set_cons_succ]))
  refine wpS_do _ rfl (by rfl) (fun K hK => ?_)
  go_simp
  refine (read_any _ end_ (n - m) (c - m) W1.drew (by have := HNM.out; have := HEL.out; omega) HR2.out.drew (by rw [HEL.out]; omega)).mono ?_
  rintro e w2 ⟨r1, rfl, hge1, hb2, hM1⟩
  have HB2 : Hid (Below W1.heap.size W1 w2) := Lib.hid ((Below.refl _ _).drew.trans hb2)
  have HM1 := Lib.hid hM1
  have HGE1 : Hid (W1.heap.size ≤ r1) := Lib.hid hge1
  refine hK.out _ _ HB2.out (fun hS => ?_)
  clear hK hS hge1 hb2 hM1
  (repeat (first | (refine wpS_pass _ rfl (by rfl) ?_; simp only [Act.put, List.getElem_toArray, List.getElem_cons_zero, List.getElem_cons_succ, List.setIfInBounds_toArray, List.set_cons_zero, List.set_cons_succ]) | (refine wpS_take _ ?_ rfl (by rfl) ?_ ?_; rotate_left; (focus (intro w' hS'; (try dsimp only at hS'); (repeat (have hS1 := hS'.1; replace hS' := hS'.2)); go_simp; (try with_reducible rfl); done)); simp only [Act.put, List.getElem_toArray, List.getElem_cons_zero, List.getElem_cons_succ, List.setIfInBounds_toArray, List.set_cons_zero, List.set_cons_succ])))
  refine wpS_done ?_
  generalize (if c = m then A else Option.map (fun x => x.add m) A) = A2 at *
  go_wp2_with fail
  refine (rdfour_any r1 (some end_) w2 HM1.out).mono ?_
  rintro e w3 ⟨rfl, hm3, hg3⟩
  have HB3 : Hid (Below W1.heap.size W1 w3) := Lib.hid (bel_grown HB2.out HB2.out.size hg3 HGE1.out)
  clear hm3 hg3 HB2 HM1 HGE1
  have hsm := sum_any A inn c w3 (HR1.out.below HB3.out) (by have := HIL.out; have := HM6.out; unfold maxLen; omega)
  rw [HIL.out] at hsm
  have HSM := Lib.hid hsm
  clear hsm
  go_wp2_with fail
  refine HSM.out.mono ?_
  rintro e w4 ⟨rfl, rfl⟩
  clear HSM
  rw [HSUM.out]
  have HRD := Lib.hid (read_any A inn m c w3 HIL.out.symm (HR1.out.below HB3.out) (by have := HIL.out; have := HM6.out; omega))
  go_wp2_with fail
  refine HRD.out.mono ?_
  rintro e w5 ⟨r, rfl, hge, hb5, hM⟩
  have HB5 : Hid (Below W1.heap.size W1 w5) := Lib.hid (ext_trans HB3.out hb5)
  have HRG : Hid (W1.heap.size ≤ r ∧ r < w5.heap.size) := Lib.hid ⟨Nat.le_trans HB3.out.size hge, hM.lt⟩
  have HM5 := Lib.hid hM.k
  clear hge hb5 hM HRD HR1 HR2
  go_wp2_with fail
  refine (rdnum_k w5.heap.size r (some inn) 4 w5 HM5.out).mono ?_
  rintro e w6 ⟨rfl, hm6, hg6⟩
  obtain ⟨k, hk⟩ : ∃ k, (getNum (some inn) 4).1 = k := ⟨_, rfl⟩
  obtain ⟨st1, hs1⟩ : ∃ s, (getNum (some inn) 4).2 = s := ⟨_, rfl⟩
  rw [hk]
  rw [hs1] at hm6
  have HK1 := Lib.hid hk
  have HKV := HKD
  rw [hk] at HKV
  have HST1 := Lib.hid hs1
  obtain ⟨W7, hW7⟩ : ∃ W, w6.alloc (.cells #[Value.int .i64 0, Value.int .i64 0, Value.int .i64 0, Value.int .i64 0, Value.slice none 0 0, Value.slice none 0 0, Value.slice none 0 0, Value.int .i64 0, Value.int .i64 0, Value.int .u8 0, Value.int .u8 0, Value.int .u8 0, Value.int .u8 0, Value.int .u8 0, Value.int .u8 0, Value.int .u8 0, Value.int .u8 0, Value.int .u8 0, Value.int .u8 0, Value.int .u8 0, Value.int .u8 0, Value.int .u8 0, Value.int .u8 0, Value.int .u8 0, Value.int .u8 0, Value.int .u8 0, Value.int .u8 0, Value.int .u8 0, Value.int .u8 0, Value.int .u8 0, Value.int .u8 0, Value.int .u8 0, Value.int .u8 0, Value.int .u8 0, Value.int .u8 0, Value.int .u8 0, Value.int .u8 0, Value.int .u8 0, Value.int .u8 0, Value.int .u8 0, Value.int .u8 0, Value.slice none 0 0] 28) = W := ⟨_, rfl⟩
  obtain ⟨q7, b7, s7⟩ := new_row hW7
  rw [← lt0_cells] at q7
  obtain ⟨g7, hg7⟩ : ∃ g, w6.heap.size = g := ⟨_, rfl⟩
  obtain ⟨W8, hW8, HTH7, HR7, HB8, HKK8, HSZ8⟩ := let_write (q := p0) (m := ⟨k, 0, 0, 0, [], [], [], 0, 0, zeros32, []⟩) q7 rfl rfl b7 b7.size (Nat.le_refl _)
  have HI8 : Hid (RI w W8 r w5.heap.size g2 g7 (g7 + 1) st1 ⟨k, 0, 0, 0, [], [], [], 0, 0, zeros32, []⟩ p0) := Lib.hid (by
    have h1 := HRG.out
    have h2 := HG2.out
    have h3 := HS1.out
    have h5 := HB5.out.size
    have h6 := hg6.size
    have h8 := HSZ8.out
    have a2 : w5.heap[g2]? = _ := (HB5.out.block g2 (by omega)).trans HQ1.out
    have a3 : w6.heap[g2]? = _ := (hg6.block g2 (by omega) (by simp; omega)).trans a2
    have a4 : W8.heap[g2]? = _ := (HB8.out.block g2 (by omega)).trans a3
    have b6 : Below w.heap.size w w6 := bel_grown (HB1.out.trans (HB5.out.mono (by omega))) (by omega) hg6 (by omega)
    exact ⟨hm6.below HB8.out, a4, by rw [← hg7]; exact HR7.out, b6.trans (HB8.out.mono (by omega)), by omega, LI.start _ _ _ _ _ _ _ _ _ _⟩)
  have HW8 := Lib.hid hW8
  rw [hg7] at HTH7 HW8
  have HIB := Lib.hid (info_leta (⟨k, 0, 0, 0, [], [], [], 0, 0, zeros32, []⟩ : Lt) p0 rfl)
  have HOB := Lib.hid (all_oneCell_toArray ((⟨k, 0, 0, 0, [], [], [], 0, 0, zeros32, []⟩ : Lt).cells_one p0))
  clear hk hs1 hm6 hg6 q7 b7 s7 hW8 HR7 HB8 HKK8 HSZ8 HB1 HQ1 HB3 HB5 HM5 HG2 HS1
  go_wp2_with ((with_reducible (refine wpList_store_mid rfl _ _ _ rfl ?_ ?_ ?_ ?_ ?_ ?_ ?_ ?_ ?_)); (exact g7); (exact 0); (exact ((⟨k, 0, 0, 0, [], [], [], 0, 0, zeros32, []⟩ : Lt).cells p0).toArray); (exact rfl); (exact rfl); (exact HTH7.out); (exact HIB.out); (exact HOB.out); rw [HW8.out])
  clear hg7 hW7
  refine (rdnum_k _ r st1 65536 W8 HI8.out.m).mono ?_
  rintro e w9 ⟨rfl, hmA, hgA⟩
  obtain ⟨f, hk⟩ : ∃ k, (getNum st1 65536).1 = k := ⟨_, rfl⟩
  obtain ⟨st2, hs1⟩ : ∃ s, (getNum st1 65536).2 = s := ⟨_, rfl⟩
  rw [hk]
  rw [hs1] at hmA
  have Hf := Lib.hid hk
  have Hst2 := Lib.hid hs1
  have hiA := HI8.out.call hmA hgA
  have c0 := row_cell hiA.r7 1
  have c1 := row_free hiA.r7 1
  have gr := grown_set (w := w9) g7 1 (.int .i64 (f : Int))
  obtain ⟨W9, hWo⟩ : ∃ W, w9.setCell ⟨g7, 1, none⟩ (.int .i64 (f : Int)) = W := ⟨_, rfl⟩
  have HI9 := Lib.hid (hiA.put gr (row_from hiA.r7 (f : Int)) (show LI _ _ _ _ ⟨k, f, 0, 0, [], [], [], 0, 0, zeros32, []⟩ _ from (let h := hiA.lif gr; ⟨h.o1, h.o2, h.o3, h.d, h.ok⟩)))
  rw [hWo] at HI9
  clear hk hs1 hmA hgA hiA gr
  go_wp2_with fail
  clear c0 c1 hWo HI8
  refine (rdnum_k _ r st2 65536 W9 HI9.out.m).mono ?_
  rintro e w10 ⟨rfl, hmA, hgA⟩
  obtain ⟨t, hk⟩ : ∃ k, (getNum st2 65536).1 = k := ⟨_, rfl⟩
  obtain ⟨st3, hs1⟩ : ∃ s, (getNum st2 65536).2 = s := ⟨_, rfl⟩
  rw [hk]
  rw [hs1] at hmA
  have Ht := Lib.hid hk
  have Hst3 := Lib.hid hs1
  have hiA := HI9.out.call hmA hgA
  have c0 := row_cell hiA.r7 2
  have c1 := row_free hiA.r7 2
  have gr := grown_set (w := w10) g7 2 (.int .i64 (t : Int))
  obtain ⟨W10, hWo⟩ : ∃ W, w10.setCell ⟨g7, 2, none⟩ (.int .i64 (t : Int)) = W := ⟨_, rfl⟩
  have HI10 := Lib.hid (hiA.put gr (row_to hiA.r7 (t : Int)) (show LI _ _ _ _ ⟨k, f, t, 0, [], [], [], 0, 0, zeros32, []⟩ _ from (let h := hiA.lif gr; ⟨h.o1, h.o2, h.o3, h.d, h.ok⟩)))
  rw [hWo] at HI10
  clear hk hs1 hmA hgA hiA gr
  go_wp2_with fail
  clear c0 c1 hWo HI9
  refine (rdnum_k _ r st3 1099511627776 W10 HI10.out.m).mono ?_
  rintro e w11 ⟨rfl, hmA, hgA⟩
  obtain ⟨s, hk⟩ : ∃ k, (getNum st3 1099511627776).1 = k := ⟨_, rfl⟩
  obtain ⟨st4, hs1⟩ : ∃ s, (getNum st3 1099511627776).2 = s := ⟨_, rfl⟩
  rw [hk]
  rw [hs1] at hmA
  have Hs := Lib.hid hk
  have Hst4 := Lib.hid hs1
  have hiA := HI10.out.call hmA hgA
  have c0 := row_cell hiA.r7 3
  have c1 := row_free hiA.r7 3
  have gr := grown_set (w := w11) g7 3 (.int .i64 (s : Int))
  obtain ⟨W11, hWo⟩ : ∃ W, w11.setCell ⟨g7, 3, none⟩ (.int .i64 (s : Int)) = W := ⟨_, rfl⟩
  have HI11 := Lib.hid (hiA.put gr (row_session hiA.r7 (s : Int)) (show LI _ _ _ _ ⟨k, f, t, s, [], [], [], 0, 0, zeros32, []⟩ _ from (let h := hiA.lif gr; ⟨h.o1, h.o2, h.o3, h.d, h.ok⟩)))
  rw [hWo] at HI11
  clear hk hs1 hmA hgA hiA gr
  have k0 : W11.cell? ⟨g7, 0, none⟩ = some (.int .i64 (k : Int)) := row_cell HI11.out.r7 0
  have d2 : ((k : Int) == 2) = true := by rw [HKV.out]; rfl
  go_wp2_with fail
  clear c0 c1 hWo HI10
  clear k0 d2
  have HHD : Hid (headR (some inn) = (⟨k, f, t, s, [], [], [], 0, 0, zeros32, []⟩, st4)) := Lib.hid (by
    unfold headR
    simp only [HK1.out, HST1.out, Hf.out, Hst2.out, Ht.out, Hst3.out, Hs.out, Hst4.out])
  have HRE0 : Hid (readL bs = (if doneS (restR (⟨k, f, t, s, [], [], [], 0, 0, zeros32, []⟩, st4)).2 && rightL (restR (⟨k, f, t, s, [], [], [], 0, 0, zeros32, []⟩, st4)).1 then some (restR (⟨k, f, t, s, [], [], [], 0, 0, zeros32, []⟩, st4)).1 else none)) := Lib.hid (by
    have h := readL_ok HLEN.out (by rw [HTK.out, HINN.out, HEND.out]; exact HSUM.out)
    rw [HTK.out, HINN.out, HHD.out] at h
    exact h)
  refine (rdnum_k _ r st4 100 W11 HI11.out.m).mono ?_
  rintro e w12 ⟨rfl, hmA, hgA⟩
  obtain ⟨nr, hk⟩ : ∃ k, (getNum st4 100).1 = k := ⟨_, rfl⟩
  obtain ⟨st5, hs1⟩ : ∃ s, (getNum st4 100).2 = s := ⟨_, rfl⟩
  have hnr := getNum_most st4 100 (by decide)
  rw [hk] at hnr
  rw [hk]
  rw [hs1] at hmA
  have Hnr := Lib.hid hk
  have Hst5 := Lib.hid hs1
  have HNB : Hid (nr ≤ 100) := Lib.hid (by omega)
  have HI12 : Hid (RI w w12 r w5.heap.size g2 g7 (g7 + 1) (refsK 0 st5).2 ⟨k, f, t, s, (refsK 0 st5).1, [], [], 0, 0, zeros32, []⟩ ⟨none, 0, none, 0, none, 0, none, 0⟩) := Lib.hid (HI11.out.call hmA hgA)
  clear hk hs1 hmA hgA hnr HI11
  go_wp2_with fail
  go_loopg [55] (nr * 1) (fun gk_ sv wr => ∃ (j : Nat) (A4 : Option Addr) (c4 : Nat), j ≤ nr ∧ gk_ = nr - j ∧ sv = .int .i64 (j : Int) ∧ Hid (RI w wr r w5.heap.size g2 g7 (g7 + 1) (refsK j st5).2 ⟨k, f, t, s, (refsK j st5).1, [], [], 0, 0, zeros32, []⟩ ⟨A4, c4, none, 0, none, 0, none, 0⟩))
  case atStart => exact ⟨0, none, 0, by omega, by omega, rfl, HI12⟩
  case round =>
  clear HI12
  obtain ⟨j, A4, c4, hj, rfl, rfl, HIJ⟩ := hrel
  have hnb := HNB.out
  by_cases hlt : j < nr
  · have i1 : (j : Int) < (nr : Int) := by omega
    go_wp2_with fail
    refine (rdtext_k _ r _ 60 wr HIJ.out.m).mono ?_
    rintro e w13 ⟨rfl, hmA, hgA⟩
    have hsz := getText_size (refsK j st5).2 60
    obtain ⟨S, hS⟩ : ∃ S : ByteArray, (⟨(getText (refsK j st5).2 60).1.toArray⟩ : ByteArray) = S := ⟨_, rfl⟩
    obtain ⟨stT, hsT⟩ : ∃ s, (getText (refsK j st5).2 60).2 = s := ⟨_, rfl⟩
    rw [hS] at hsz
    rw [hS]
    rw [hsT] at hmA
    have HI13 := HIJ.out.call hmA hgA
    obtain ⟨W14, W15, hW14, hW15, HTH, HRW, HBB⟩ := row_place (w := w13) 52 refZ (RefM.mk S zeros32).cells (by rfl)
    have hWa : w13.alloc (.cells #[Value.string ⟨#[]⟩, Value.int .u8 0, Value.int .u8 0, Value.int .u8 0, Value.int .u8 0, Value.int .u8 0, Value.int .u8 0, Value.int .u8 0, Value.int .u8 0, Value.int .u8 0, Value.int .u8 0, Value.int .u8 0, Value.int .u8 0, Value.int .u8 0, Value.int .u8 0, Value.int .u8 0, Value.int .u8 0, Value.int .u8 0, Value.int .u8 0, Value.int .u8 0, Value.int .u8 0, Value.int .u8 0, Value.int .u8 0, Value.int .u8 0, Value.int .u8 0, Value.int .u8 0, Value.int .u8 0, Value.int .u8 0, Value.int .u8 0, Value.int .u8 0, Value.int .u8 0, Value.int .u8 0, Value.int .u8 0] 52) = W14 := hW14
    have HW15 := Lib.hid hW15
    have HI15 := Lib.hid (HI13.below HBB.out)
    have HOB := Lib.hid (fun ad (e : A4 = some ad) => (own_slice HI13.li.o1).elim fun A h => h.elim fun c h => by
      obtain ⟨e1, _, _, h2, _⟩ := h
      cases e1
      exact (h2 ad e).2)
    have HLO := Lib.hid HI13.ne.2.2.2.2.2.2.2.2.2.2.2
    obtain ⟨g8, hg8⟩ : ∃ g, w13.heap.size = g := ⟨_, rfl⟩
    rw [hg8] at HTH HRW HW15 HOB HLO
    have HSS := Lib.hid hS
    have HST := Lib.hid hsT
    have HSZ := Lib.hid hsz
    have HIRF : Hid ((Try.prog.info? 52).map (·.size) = some (RefM.mk S zeros32).cells.toArray.size) := Lib.hid (by rw [List.size_toArray]; kernel_rfl)
    clear hmA hgA hS hsT hsz HI13 hW14 hW15 HBB
    go_wp2_with ((with_reducible (refine wpList_store_mid rfl _ _ _ rfl ?_ ?_ ?_ ?_ ?_ ?_ ?_ ?_ ?_)); (exact g8); (exact 0); (exact ((RefM.mk S zeros32).cells).toArray); (exact rfl); (exact rfl); (exact HTH.out); (exact HIRF.out); (exact all_oneCell_toArray (RefM.one _)); rw [HW15.out])
    clear hWa hg8
    refine (rdid_k _ r stT W15 HI15.out.m (by have := HI15.out.ne; omega)).mono ?_
    rintro e w16 ⟨rfl, hmA, hgA⟩
    obtain ⟨id, hid⟩ : ∃ k, (getId stT).1 = k := ⟨_, rfl⟩
    obtain ⟨stI, hsI⟩ : ∃ s, (getId stT).2 = s := ⟨_, rfl⟩
    have hil : id.length = 32 := by rw [← hid]; exact getId_len _
    rw [hid]
    rw [hsI] at hmA
    have hRW16 := (hgA.block g8 (Array.getElem?_eq_some_iff.1 HRW.out).1 (by have := HI15.out.ne; have := HLO.out; simp; omega)).trans HRW.out
    have HI16 := HI15.out.call hmA hgA
    have gr := setCells_grown g8 (b8s id) 1 w16
    obtain ⟨W17, hW17⟩ : ∃ W, w16.setCells g8 1 (b8s id).toArray.toList = W := ⟨_, rfl⟩
    have hI17 := HI16.free gr (by have := HLO.out; omega) (fun ad e => by have := HOB.out ad e; omega)
    have hR17 := ref_set_id hRW16 (b := id) (by rw [hil]; rfl)
    have hW17' : w16.setCells g8 1 (b8s id) = W17 := hW17
    rw [hW17'] at hI17 hR17
    have HI17 := Lib.hid hI17
    have HR17 := Lib.hid (range_of_row hR17)
    have HW17 := Lib.hid hW17
    have HT17 : Hid (w16.there g8 1 (b8s id).toArray.size) := Lib.hid (fun i hi => by
      rw [List.size_toArray, b8s_length, hil] at hi
      refine ⟨?_, row_free hRW16 _⟩
      rw [row_cell hRW16, Array.getElem?_eq_getElem (by rw [List.size_toArray]; simp [RefM.cells, b8s, zeros32]; omega)]
      rfl)
    have HIP := Lib.hid (info_id32' id hil).2
    have HID := Lib.hid hid
    have HSI := Lib.hid hsI
    have hxo : (RefM.mk S id).ok := ⟨hil, by have := HSZ.out; show S.size ≤ _; omega⟩
    have HXO := Lib.hid hxo
    have HIR2 := Lib.hid (info_ref _ hxo)
    have HNX : Hid ((refsK (j + 1) st5).1 = (refsK j st5).1 ++ [RefM.mk S id]) := Lib.hid (by
      show (refsK j st5).1 ++ [_] = _
      rw [HST.out, hid, HSS.out])
    have HNX2 : Hid ((refsK (j + 1) st5).2 = stI) := Lib.hid (by
      show (getId (getText (refsK j st5).2 60).2).2 = _
      rw [HST.out, hsI])
    have HLN : Hid ((refsK j st5).1.length = j) := Lib.hid (refsK_len j st5).1
    clear hid hsI hil hmA hgA hRW16 HI16 gr hI17 hR17 hW17 hW17' hxo HI15 HRW
    have c4f : W17.cell? ⟨g7, 4, none⟩ = some (.slice A4 j c4) := by
      have h : W17.cell? ⟨g7, 4, none⟩ = some (.slice A4 (refsK j st5).1.length c4) := row_cell HI17.out.r7 4
      rw [HLN.out] at h
      exact h
    obtain ⟨W18, hW18⟩ : ∃ W, W17.alloc (.cells (RefM.mk S id).cells.toArray 52) = W := ⟨_, rfl⟩
    obtain ⟨r18, b18, s18⟩ := new_row hW18
    have HI18 := Lib.hid (HI17.out.below b18)
    have HR18 : Hid (Rd W18 (some ⟨W17.heap.size, 0, none⟩) (RefM.mk S id).cells) := Lib.hid (range_rd (range_of_row r18))
    have HO18 : Hid (W18.ownsRow (g7 + 1) 52 33 (.slice A4 j c4) j (rfc (refsK j st5).1)) := Lib.hid (by
      have h := HI18.out.li.o1
      rw [show (⟨k, f, t, s, (refsK j st5).1, [], [], 0, 0, zeros32, []⟩ : Lt).refs.length = j from HLN.out] at h
      exact h)
    have HBA := Lib.hid HI18.out.ne.2.2.2.2.2.2.2.2.2.2.2
    have HW18 := Lib.hid hW18
    have HAPP : Hid (∀ A' c' W', W18.grownBy W' (Value.slice A4 j c4).ownBlock → W'.ownsRow (g7 + 1) 52 33 (.slice A' (j + 1) c') (j + 1) (rfc (refsK j st5).1 ++ (RefM.mk S id).cells) →
        W'.cell? ⟨g7, 4, none⟩ = some (.slice A4 j c4) ∧ W'.frozen? ⟨g7, 4, none⟩ = false ∧ Hid (RI w (W'.setCell ⟨g7, 4, none⟩ (.slice A' (j + 1) c')) r w5.heap.size g2 g7 (g7 + 1) (refsK (j + 1) st5).2 ⟨k, f, t, s, (refsK (j + 1) st5).1, [], [], 0, 0, zeros32, []⟩ ⟨A', c', none, 0, none, 0, none, 0⟩)) := Lib.hid (by
      intro A' c' W' hg ho
      have hl : ((refsK j st5).1 ++ [RefM.mk S id]).length = j + 1 := by rw [List.length_append, HLN.out]; rfl
      have h := HI18.out.appref (A' := A') (c' := c') (x := RefM.mk S id) (by rw [HLN.out]; exact hg) (by rw [hl, rfc_snoc]; exact ho) HXO.out
      rw [hl, HLN.out] at h
      rw [HNX.out, HNX2.out]
      exact ⟨h.1, h.2.1, Lib.hid h.2.2⟩)
    clear r18 b18 s18 hW18
    go_wp2_with (first
      | ((with_reducible (refine wpList_store_mid rfl _ _ _ rfl ?_ ?_ ?_ ?_ ?_ ?_ ?_ ?_ ?_)); (exact g8); (exact 1); (exact (b8s id).toArray); (exact rfl); (exact rfl); (exact HT17.out); (exact HIP.out); (exact all_oneCell_toArray (b8s_one' _)); rw [HW17.out])
      | ((with_reducible (refine wpList_load_cells 52 _ g8 0 ((RefM.mk S id).cells) HR17.out Try.underlying52 rfl HIR2.out ?_ rfl ?_ ?_)); (exact rfl); (exact rfl))
      | (refine wpList_build1 rfl _ 52 _ rfl (RefM.mk S id).cells rfl Try.underlying22 (by rw [RefM.len HXO.out]; exact info_ref1) (by rw [RefM.len HXO.out]; decide) (by rw [RefM.len HXO.out]; decide) ?_; rw [HW18.out])
      | (at_builtin; refine wpList_append_rd _ rfl _ _ 22 rfl (g7 + 1) 52 _ 33 48 Try.underlying22 info_ref2 (by unfold refZ; rw [zeros32_cells]; rfl) (by decide) (.slice A4 j c4) j (rfc (refsK j st5).1) rfl HO18.out _ 1 1 (RefM.mk S id).cells rfl (by rw [RefM.len HXO.out]) HR18.out (RefM.one _) (by unfold maxLen; omega) (by omega) HBA.out ?_; intro v4 w4 ho4 hg4 hvb4; obtain ⟨A5, c5, e5, _⟩ := own_slice ho4; subst e5; obtain ⟨x4, y4, HRX⟩ := HAPP.out A5 c5 w4 hg4 ho4; clear ho4 hg4 hvb4))
    clear c4f
    go_roundg (nr - (j + 1))
    case measure => omega
    case rel => exact ⟨j + 1, A5, c5, by omega, rfl, by first | rfl | exact congrArg (Value.int .i64) (by omega) | go_num, HRX⟩
  obtain rfl : j = nr := by omega
  have HRES : Hid (readL bs = (if doneS (refsK j st5).2 && rightL ⟨k, f, t, s, (refsK j st5).1, [], [], 0, 0, zeros32, []⟩ then some ⟨k, f, t, s, (refsK j st5).1, [], [], 0, 0, zeros32, []⟩ else none)) := Lib.hid (by
    have h := HRE0.out
    rw [restR_2 (by have := HKV.out; simp only; omega)] at h
    unfold getRefs at h
    simp only [Hnr.out, Hst5.out] at h
    exact h)
  have HTB : Hid (-9223372036854775808 ≤ (0 : Int) ∧ (0 : Int) ≤ 9223372036854775807) := Lib.hid ⟨by decide, by decide⟩
  have HIZ := HIJ
  go_wp2_with fail
  refine (done_any r _ _ HIZ.out.m.m).mono ?_
  rintro e wz1 ⟨rfl, rfl⟩
  have HRL := Lib.hid (lright_any _ _ wr HIZ.out.li.in_ HTB.out)
  obtain ⟨WE, hWE, HTE, HRE, HBE, _, _⟩ := let_write (q := p0) (m := lt0) HIZ.out.r2 rfl rfl HIZ.out.bw HIZ.out.bw.size HIZ.out.ne.2.1
  have HWE := Lib.hid hWE
  have HIE := Lib.hid (info_leta lt0 p0 rfl)
  have HOE := Lib.hid (all_oneCell_toArray (lt0.cells_one p0))
  have HBE' : Hid (Below w.heap.size w WE) := HBE
  clear hWE
  cases hd : doneS (refsK j st5).2
  · have HRF : Hid (readL bs = none) := Lib.hid (by rw [HRES.out, hd]; rfl)
    clear hd
    go_wp2_with ((with_reducible (refine wpList_store_mid rfl _ _ _ rfl ?_ ?_ ?_ ?_ ?_ ?_ ?_ ?_ ?_)); (exact g2); (exact 0); (exact (lt0.cells p0).toArray); (exact rfl); (exact rfl); (exact HTE.out); (exact HIE.out); (exact HOE.out); rw [HWE.out])
    refine bodyPost_ret (results_row_tmp rfl _ _ _ _ _ _ _ rfl HRE.out Try.underlying28 rfl HIE.out) rfl ?_
    rw [HRF.out]
    exact res_zero HBE'.out
  have HD := Lib.hid hd
  clear hd
  have HR7 := Lib.hid HIZ.out.r7
  have HIL7 := Lib.hid (info_leta (⟨k, f, t, s, (refsK j st5).1, [], [], 0, 0, zeros32, []⟩ : Lt) (⟨A4, c4, none, 0, none, 0, none, 0⟩ : LtP) HIZ.out.li.ok.2.2.2)
  have HOL7 := Lib.hid (all_oneCell_toArray (Lt.cells_one (⟨k, f, t, s, (refsK j st5).1, [], [], 0, 0, zeros32, []⟩ : Lt) (⟨A4, c4, none, 0, none, 0, none, 0⟩ : LtP)))
  go_wp2_with ((with_reducible (refine wpList_load_row_w _ _ rfl _ rfl _ _ _ _ HR7.out Try.underlying28 rfl HIL7.out ?_ ?_)); (focus (rfl)))
  refine HRL.out.mono ?_
  rintro e wz2 ⟨rfl, hbz⟩
  have HIY := Lib.hid (HIZ.out.below hbz)
  clear hbz HRL HTE HRE HBE HBE' HWE
  cases hrt : rightL (⟨k, f, t, s, (refsK j st5).1, [], [], 0, 0, zeros32, []⟩ : Lt)
  · have HRF : Hid (readL bs = none) := Lib.hid (by rw [HRES.out, HD.out, hrt]; rfl)
    clear hrt
    obtain ⟨WE, hWE, HTE, HRE, HBE, _, _⟩ := let_write (q := p0) (m := lt0) HIY.out.r2 rfl rfl HIY.out.bw HIY.out.bw.size HIY.out.ne.2.1
    have HWE := Lib.hid hWE
    have HBE' : Hid (Below w.heap.size w WE) := HBE
    clear hWE
    go_wp2_with ((with_reducible (refine wpList_store_mid rfl _ _ _ rfl ?_ ?_ ?_ ?_ ?_ ?_ ?_ ?_ ?_)); (exact g2); (exact 0); (exact (lt0.cells p0).toArray); (exact rfl); (exact rfl); (exact HTE.out); (exact HIE.out); (exact HOE.out); rw [HWE.out])
    refine bodyPost_ret (results_row_tmp rfl _ _ _ _ _ _ _ rfl HRE.out Try.underlying28 rfl HIE.out) rfl ?_
    rw [HRF.out]
    exact res_zero HBE'.out
  have HRF : Hid (readL bs = some (⟨k, f, t, s, (refsK j st5).1, [], [], 0, 0, zeros32, []⟩ : Lt)) := Lib.hid (by rw [HRES.out, HD.out, hrt]; rfl)
  clear hrt
  obtain ⟨WE, hWE, HTE, HRE, HBE, _, _⟩ := let_write (q := (⟨A4, c4, none, 0, none, 0, none, 0⟩ : LtP)) (m := (⟨k, f, t, s, (refsK j st5).1, [], [], 0, 0, zeros32, []⟩ : Lt)) HIY.out.r2 rfl HIY.out.li.ok.2.2.2 HIY.out.bw HIY.out.bw.size HIY.out.ne.2.1
  have HWE := Lib.hid hWE
  have HLE : Hid (LtIn WE (⟨k, f, t, s, (refsK j st5).1, [], [], 0, 0, zeros32, []⟩ : Lt) (⟨A4, c4, none, 0, none, 0, none, 0⟩ : LtP)) := Lib.hid (by rw [← hWE]; exact (HIY.out.li.far HIY.out.ne.2.2.2.2.1 (setCells_grown _ _ _ _)).in_)
  have HR7' := Lib.hid HIY.out.r7
  clear hWE
  go_wp2_with (first
    | ((with_reducible (refine wpList_load_row_w _ _ rfl _ rfl _ _ _ _ HR7'.out Try.underlying28 rfl HIL7.out ?_ ?_)); (focus (rfl)))
    | ((with_reducible (refine wpList_store_mid rfl _ _ _ rfl ?_ ?_ ?_ ?_ ?_ ?_ ?_ ?_ ?_)); (exact g2); (exact 0); (exact (Lt.cells (⟨k, f, t, s, (refsK j st5).1, [], [], 0, 0, zeros32, []⟩ : Lt) (⟨A4, c4, none, 0, none, 0, none, 0⟩ : LtP)).toArray); (exact rfl); (exact rfl); (exact HTE.out); (exact HIL7.out); (exact HOL7.out); rw [HWE.out]))
  refine bodyPost_ret (results_row_tmp rfl _ _ _ _ _ _ _ rfl HRE.out Try.underlying28 rfl HIL7.out) rfl ?_
  rw [HRF.out]
  exact ⟨_, rfl, HLE.out, HBE.out⟩
end Go.Proofs.Ytfjfidhhmidflaa
