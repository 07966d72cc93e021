
/- Refs: a new disk's refs, turn by turn; the document's example. (With the texts that it stands on.) -/

import Derived.Test.YtelbofikcpchiaaGreatRf15

/-! Refs, plain: a disk that holds the refs' file alone. -/

namespace Go.Proofs.YtelbofikcpchiaaGreat

set_option linter.unusedVariables false

set_option linter.unusedSimpArgs false

/-- a disk whose one file is refs, with its bytes, all safe -/
def stR (bs : List UInt8) (room : Nat) : DM := ⟨[⟨bs, bs.length⟩], [(refsB, 0)], [(refsB, 0)], [], room, 0, false⟩
/-- its bytes, of which some are not safe yet -/
def stU (bs : List UInt8) (sf room : Nat) : DM := ⟨[⟨bs, sf⟩], [(refsB, 0)], [(refsB, 0)], [], room, 0, false⟩
theorem read_new (n : Int) : readM (newM n) refsB = ([], 4) := rfl
theorem create_new (n : Int) : createM (newM n) refsB = (⟨[⟨[], 0⟩], [(refsB, 0)], [], [⟨[], refsB, 0⟩], (max n 0).toNat, 0, false⟩, 0) := rfl
theorem flush_new (n : Int) : flushM ⟨[⟨[], 0⟩], [(refsB, 0)], [], [⟨[], refsB, 0⟩], (max n 0).toNat, 0, false⟩ = (stR [] (max n 0).toNat, 0) := rfl
theorem append_stR {bs rb : List UInt8} {room : Nat} (h : bs.length + rb.length ≤ room) : appendM (stR bs room) refsB rb = (stU (bs ++ rb) bs.length room, 0) := by
  have hr : roomM (stR bs room) = room - (bs.length + 0) := rfl
  have hf : findM (stR bs room) refsB = (some 0, 0) := rfl
  unfold appendM
  rw [hf]
  simp only
  rw [hr, if_neg (by omega)]
  rfl
theorem sync_stU (bs : List UInt8) (sf room : Nat) : syncM (stU bs sf room) refsB = (stR bs room, 0) := rfl
theorem rf0_ok : RfOk rf0 where
  al := rfl
  ids := by intro p hp; simp [rf0] at hp
  log := by intro u hu; simp [rf0] at hu
  rn := List.Pairwise.nil
  hd := by decide
/-- refs' answer to a turn, with all room -/
def doP (r : RfM) (t : TxM) : RfM × Int :=
  if checkR r t ≠ 0 then (r, checkR r t) else if emptyT t then (r, 0) else (makeR r t, 0)
theorem doP_stuck (r : RfM) (t : TxM) : (doP r t).1.stuck = r.stuck := by
  unfold doP
  split
  · rfl
  · split <;> rfl
theorem doP_ok {r : RfM} {t : TxM} (h : RfOk r) (ht : TxOk t) : RfOk (doP r t).1 := by
  unfold doP
  split
  · exact h
  · split
    · exact h
    · exact makeR_ok h ht
/-- the bytes of the file behind a turn -/
def bytP (r : RfM) (bs : List UInt8) (t : TxM) : List UInt8 := if checkR r t ≠ 0 then bs else if emptyT t then bs else bs ++ recordB t

/-- Do, on a disk that holds refs alone and has room -/
theorem do_room {N gr g L room : Nat} {bs : List UInt8} {w : World} {d : DA} {r : RfM} {q : QA} (h : DR N w g (stR bs room) d gr r q) (hf : Fit 5 L (stR bs room)) (hL : L ≤ 1000000000000) (hk : RfOk r) (hs : r.stuck = false)
    (A : Option Addr) (n c : Nat) (t : TxM) (hn : t.us.length = n) (ht : TxOk t) (hr : Rd w A (upsC t.us)) (hA : SafeA A t.us fun b => foot g d b ∨ footR gr q b)
    (hpl : (payloadB t).length ≤ 1000000000) (hal : r.all.length ≤ 1000000 ∧ r.log.length ≤ 1000000) (hroom : bs.length + (recordB t).length ≤ room) :
    Calls Tryz.prog 10 #[.pointer (some ⟨gr, 0, none⟩), .agg (txC A n c t).toArray] w fun e w' => e = .returned (.int .i64 (doP r t).2) ∧ ∃ d' q', DR N w' g (stR (bytP r bs t) room) d' gr (doP r t).1 q' ∧ Fit 5 (L + (recordB t).length) (stR (bytP r bs t) room) ∧ Frm (fun b => foot g d b ∨ footR gr q b) w w' ∧ (∀ b, foot g d' b ∨ footR gr q' b → (foot g d b ∨ footR gr q b) ∨ w.heap.size ≤ b) := by
  by_cases hz : checkR r t = 0
  · cases he : emptyT t with
    | true =>
      have e1 : doP r t = (r, 0) := by unfold doP; rw [if_neg (by rw [hz]; simp), if_pos he]
      have e2 : bytP r bs t = bs := by unfold bytP; rw [if_neg (by rw [hz]; simp), if_pos he]
      rw [e1, e2]
      refine (do_empty h.refs hk A n c t hn ht hr hz he).mono ?_
      rintro e w' ⟨rfl, hb⟩
      exact ⟨rfl, d, q, h.below hb, hf.mono (Nat.le_refl _) (by omega), Frm.of_below hb, fun b hb => .inl hb⟩
    | false =>
      have e1 : doP r t = (makeR r t, 0) := by unfold doP; rw [if_neg (by rw [hz]; simp), if_neg (by rw [he]; simp)]
      have e2 : bytP r bs t = bs ++ recordB t := by unfold bytP; rw [if_neg (by rw [hz]; simp), if_neg (by rw [he]; simp)]
      rw [e1, e2]
      exact do_made h hf (by omega) hL hk hs A n c t hn ht hr hA hz he hpl hal (append_stR hroom) (sync_stU _ _ _)
  · have e1 : doP r t = (r, checkR r t) := by unfold doP; rw [if_pos hz]
    have e2 : bytP r bs t = bs := by unfold bytP; rw [if_pos hz]
    rw [e1, e2]
    refine (do_bad h.refs hk A n c t hn ht hr rfl hz).mono ?_
    rintro e w' ⟨rfl, hb⟩
    exact ⟨rfl, d, q, h.below hb, hf.mono (Nat.le_refl _) (by omega), Frm.of_below hb, fun b hb => .inl hb⟩
end Go.Proofs.YtelbofikcpchiaaGreat

/-! Refs: the laws' turn of one update. -/

namespace Go.Proofs.YtelbofikcpchiaaGreat

set_option linter.unusedVariables false

set_option linter.unusedSimpArgs false

set_option linter.unusedSectionVars false

open Go.RowKit

theorem cells32 {l : List UInt8} (h : l.length = 32) : ∃ a0 a1 a2 a3 a4 a5 a6 a7 a8 a9 b0 b1 b2 b3 b4 b5 b6 b7 b8 b9 c0 c1 c2 c3 c4 c5 c6 c7 c8 c9 d0 d1, l = [a0, a1, a2, a3, a4, a5, a6, a7, a8, a9, b0, b1, b2, b3, b4, b5, b6, b7, b8, b9, c0, c1, c2, c3, c4, c5, c6, c7, c8, c9, d0, d1] := by
  match l, h with
  | [a0, a1, a2, a3, a4, a5, a6, a7, a8, a9, b0, b1, b2, b3, b4, b5, b6, b7, b8, b9, c0, c1, c2, c3, c4, c5, c6, c7, c8, c9, d0, d1], _ => exact ⟨a0, a1, a2, a3, a4, a5, a6, a7, a8, a9, b0, b1, b2, b3, b4, b5, b6, b7, b8, b9, c0, c1, c2, c3, c4, c5, c6, c7, c8, c9, d0, d1, rfl⟩
theorem up_built {u : UpM} (h : upOk u) : Tryz.prog.built 31 [(0, strV u.name), (1, .agg (b8s u.old).toArray), (2, .agg (b8s u.new).toArray)] = some (upC u).toArray := by
  obtain ⟨nm, old, new⟩ := u
  obtain ⟨a0, a1, a2, a3, a4, a5, a6, a7, a8, a9, b0, b1, b2, b3, b4, b5, b6, b7, b8, b9, c0, c1, c2, c3, c4, c5, c6, c7, c8, c9, d0, d1, rfl⟩ := cells32 h.1
  obtain ⟨e0, e1, e2, e3, e4, e5, e6, e7, e8, e9, f0, f1, f2, f3, f4, f5, f6, f7, f8, f9, g0, g1, g2, g3, g4, g5, g6, g7, g8, g9, h0, h1, rfl⟩ := cells32 h.2.1
  kernel_rfl
theorem tx_built (A : Option Addr) (n c : Nat) : Tryz.prog.built 28 [(0, .slice A n c)] = some (txC A n c ⟨[], [], Z32⟩).toArray := by kernel_rfl
end Go.Proofs.YtelbofikcpchiaaGreat

/-! Refs: the laws' turn of one update, walked. -/

namespace Go.Proofs.YtelbofikcpchiaaGreat

set_option linter.unusedVariables false

set_option linter.unusedSimpArgs false

set_option linter.unusedSectionVars false

open Go.RowKit

set_option maxRecDepth 100000 in
set_option maxHeartbeats 8000000 in
theorem lawturn_any (S : ByteArray) (u : UpM) (hu : strV u.name = .string S) (hk : upOk u) (w : World) :
    Calls Tryz.prog 27 #[.string S, .agg (b8s u.old).toArray, .agg (b8s u.new).toArray] w fun e w' => ∃ b, w.heap.size ≤ b ∧ e = .returned (.agg (txC (some ⟨b, 0, none⟩) 1 1 ⟨[u], [], Z32⟩).toArray) ∧ Below w.heap.size w w' ∧ Rd w' (some ⟨b, 0, none⟩) (upsC [u]) := by
  obtain ⟨p0, hp0⟩ : ∃ x, w.heap.size = x := ⟨_, rfl⟩
  obtain ⟨W1, hW1⟩ : ∃ W, w.alloc (.cells (b8s u.old).toArray 24) = W := ⟨_, rfl⟩
  obtain ⟨p1, hp1⟩ : ∃ x, W1.heap.size = x := ⟨_, rfl⟩
  obtain ⟨W2, hW2⟩ : ∃ W, W1.alloc (.cells (b8s u.new).toArray 24) = W := ⟨_, rfl⟩
  obtain ⟨p2, hp2⟩ : ∃ x, W2.heap.size = x := ⟨_, rfl⟩
  obtain ⟨W3, hW3⟩ : ∃ W, W2.alloc (.cells #[Value.slice none 0 0, Value.string ⟨#[]⟩, Value.int .u8 0, Value.int .u8 0, Value.int .u8 0, Value.int .u8 0, Value.int .u8 0, Value.int .u8 0, Value.int .u8 0, Value.int .u8 0, Value.int .u8 0, Value.int .u8 0, Value.int .u8 0, Value.int .u8 0, Value.int .u8 0, Value.int .u8 0, Value.int .u8 0, Value.int .u8 0, Value.int .u8 0, Value.int .u8 0, Value.int .u8 0, Value.int .u8 0, Value.int .u8 0, Value.int .u8 0, Value.int .u8 0, Value.int .u8 0, Value.int .u8 0, Value.int .u8 0, Value.int .u8 0, Value.int .u8 0, Value.int .u8 0, Value.int .u8 0, Value.int .u8 0, Value.int .u8 0] 28) = W := ⟨_, rfl⟩
  obtain ⟨p3, hp3⟩ : ∃ x, W3.heap.size = x := ⟨_, rfl⟩
  obtain ⟨W4, hW4⟩ : ∃ W, W3.alloc (.cells (upC u).toArray 31) = W := ⟨_, rfl⟩
  obtain ⟨lz, hlz⟩ : ∃ l, txC none 0 0 t0 = l := ⟨_, rfl⟩
  have hlz' : lz.toArray = #[Value.slice none 0 0, Value.string ⟨#[]⟩, Value.int .u8 0, Value.int .u8 0, Value.int .u8 0, Value.int .u8 0, Value.int .u8 0, Value.int .u8 0, Value.int .u8 0, Value.int .u8 0, Value.int .u8 0, Value.int .u8 0, Value.int .u8 0, Value.int .u8 0, Value.int .u8 0, Value.int .u8 0, Value.int .u8 0, Value.int .u8 0, Value.int .u8 0, Value.int .u8 0, Value.int .u8 0, Value.int .u8 0, Value.int .u8 0, Value.int .u8 0, Value.int .u8 0, Value.int .u8 0, Value.int .u8 0, Value.int .u8 0, Value.int .u8 0, Value.int .u8 0, Value.int .u8 0, Value.int .u8 0, Value.int .u8 0, Value.int .u8 0] := by rw [← hlz]; rfl
  obtain ⟨r1, b1, s1⟩ := new_row hW1
  obtain ⟨r2, b2, s2⟩ := new_row hW2
  obtain ⟨r3, b3, s3⟩ := new_row hW3
  obtain ⟨r4, b4, s4⟩ := new_row hW4
  rw [hp0] at r1
  rw [hp1] at r2
  rw [hp2, ← hlz'] at r3
  rw [hp3] at r4
  have b13 : Below W1.heap.size W1 W3 := b2.trans (b3.mono b2.size)
  have HR1 := Lib.hid (range_of_row ((b13.block _ (Array.getElem?_eq_some_iff.1 r1).1).trans r1))
  have HR2 := Lib.hid (range_of_row ((b3.block _ (Array.getElem?_eq_some_iff.1 r2).1).trans r2))
  have HB4 : Hid (Below w.heap.size w W4) := Lib.hid ((b1.trans (b13.mono b1.size)).trans (b4.mono (b1.trans (b13.mono b1.size)).size))
  have r3' := (b4.block _ (Array.getElem?_eq_some_iff.1 r3).1).trans r3
  obtain ⟨lt, hlt⟩ : ∃ l, txC (some ⟨p3, 0, none⟩) 1 1 ⟨[u], [], Z32⟩ = l := ⟨_, rfl⟩
  obtain ⟨W5, hW5, T5, R5, G5⟩ := put_rowR (new := lt) r3' (by rw [← hlt, ← hlz]; rfl)
  have HW5 := Lib.hid hW5
  have h13 : w.heap.size ≤ p2 := by have := b1.size; have := b2.size; omega
  have h23 : p2 < p3 := by rw [← hp3]; exact (Array.getElem?_eq_some_iff.1 r3).1
  have HB5 : Hid (Below w.heap.size w W5) := Lib.hid (bel_grown HB4.out HB4.out.size G5.out h13)
  have HRD : Hid (Rd W5 (some ⟨p3, 0, none⟩) (upsC [u])) := Lib.hid (by
    have h1 := (G5.out.block _ (Array.getElem?_eq_some_iff.1 r4).1 (fun e => by have := Option.some.inj e; omega)).trans r4
    have e : upsC [u] = upC u := by simp [upsC]
    rw [e]
    exact range_rd (range_of_row h1))
  have HLE : Hid (w.heap.size ≤ p3) := Lib.hid (by omega)
  have HUB : Hid (Tryz.prog.built 31 [(0, .string S), (1, .agg (b8s u.old).toArray), (2, .agg (b8s u.new).toArray)] = some (upC u).toArray) := Lib.hid (by rw [← hu]; exact up_built hk)
  have HTB : Hid (Tryz.prog.built 28 [(0, .slice (some ⟨p3, 0, none⟩) 1 1)] = some lt.toArray) := Lib.hid (by rw [← hlt]; exact tx_built _ _ _)
  have HIO := Lib.hid (info_idl u.old hk.1)
  have HIN := Lib.hid (info_idl u.new hk.2.1)
  have HIA : Hid ((Tryz.prog.info? 28).map (·.size) = some lt.toArray.size) := Lib.hid (by rw [← hlt]; exact info_txa rfl)
  have HOC : Hid (lt.toArray.all (·.oneCell') = true) := Lib.hid (all_oneCell_toArray (by rw [← hlt]; exact txC_one _ _ _ _))
  have HIB : Hid ((Tryz.prog.info? 31).map (fun i => (i.size, i.zero.isSome)) = some ((upC u).length, true)) := Lib.hid (by rw [upC_len hk]; kernel_rfl)
  have HUL := Lib.hid (upC_len hk)
  have HLT := Lib.hid hlt
  have HL2 : Hid (lt.toArray = #[Value.slice (some ⟨p3, 0, none⟩) 1 1, Value.string ⟨#[]⟩, Value.int .u8 0, Value.int .u8 0, Value.int .u8 0, Value.int .u8 0, Value.int .u8 0, Value.int .u8 0, Value.int .u8 0, Value.int .u8 0, Value.int .u8 0, Value.int .u8 0, Value.int .u8 0, Value.int .u8 0, Value.int .u8 0, Value.int .u8 0, Value.int .u8 0, Value.int .u8 0, Value.int .u8 0, Value.int .u8 0, Value.int .u8 0, Value.int .u8 0, Value.int .u8 0, Value.int .u8 0, Value.int .u8 0, Value.int .u8 0, Value.int .u8 0, Value.int .u8 0, Value.int .u8 0, Value.int .u8 0, Value.int .u8 0, Value.int .u8 0, Value.int .u8 0, Value.int .u8 0]) := Lib.hid (by rw [← hlt]; rfl)
  rw [hlt.symm] at hlt
  obtain ⟨lo, hlo⟩ : ∃ l, b8s u.old = l := ⟨_, rfl⟩
  obtain ⟨ln, hln⟩ : ∃ l, b8s u.new = l := ⟨_, rfl⟩
  obtain ⟨la, hla⟩ : ∃ l, upC u = l := ⟨_, rfl⟩
  rw [hla] at hW4 HUB HIB HUL
  rw [hlo] at hW1 HR1 HUB HIO ⊢
  rw [hln] at hW2 HR2 HUB HIN ⊢
  clear hlo hln hla r1 r2 r3 r4 r3' b1 b2 b3 b4 s1 s2 s3 s4 b13 hW5 h13 h23 hlz hlz' hk hu hlt
  go_enter Tryz.func27, Tryz.ntmps27
  go_wp2_with (first
    | ((with_reducible (refine wpList_load_cells 24 _ p0 0 (lo) HR1.out Tryz.underlying24 rfl HIO.out ?_ rfl ?_ ?_)); (exact rfl); (exact rfl))
    | ((with_reducible (refine wpList_load_cells 24 _ p1 0 (ln) HR2.out Tryz.underlying24 rfl HIN.out ?_ rfl ?_ ?_)); (exact rfl); (exact rfl))
    | ((with_reducible (refine wpList_built ?_ _ #[(0, .tmp 7), (1, .tmp 8), (2, .tmp 9)] ?_ _ ?_ _ HUB.out ?_)); (exact rfl); (exact rfl); (exact rfl))
    | ((with_reducible (refine wpList_built ?_ _ #[(0, .tmp 11)] ?_ _ ?_ _ HTB.out ?_)); (exact rfl); (exact rfl); (exact rfl))
    | (refine wpList_build1 rfl 26 31 _ rfl la rfl Tryz.underlying26 HIB.out (by rw [HUL.out]; omega) (by rw [HUL.out]; omega) ?_)
    | (rw [← HL2.out]; ((with_reducible (refine wpList_store_mid rfl _ _ _ rfl ?_ ?_ ?_ ?_ ?_ ?_ ?_ ?_ ?_)); (exact p2); (exact 0); (exact (lt).toArray); (exact rfl); (exact rfl); (exact T5.out); (exact HIA.out); (exact HOC.out); rw [HW5.out])))
  refine bodyPost_ret (results_row1 rfl _ _ _ _ _ _ _ rfl R5.out Tryz.underlying28 rfl HIA.out) rfl ?_
  exact ⟨p3, by first | exact HLE.out | (rw [← hp0]; exact HLE.out), by rw [HLT.out], by first | exact HB5.out | (rw [← hp0]; exact HB5.out), HRD.out⟩
end Go.Proofs.YtelbofikcpchiaaGreat

/-! Refs, plain: turns of one update; how long records are. -/

namespace Go.Proofs.YtelbofikcpchiaaGreat

set_option linter.unusedVariables false

set_option linter.unusedSimpArgs false

/-- a turn of one update -/
def tx1 (u : UpM) : TxM := ⟨[u], [], Z32⟩
theorem tx1_ok {u : UpM} (h : upOk u) : TxOk (tx1 u) where
  al := rfl
  us := by
    intro v hv
    simp only [tx1, List.mem_singleton] at hv
    rw [hv]
    exact h
  hd := by simp [tx1]
  ul := by simp [tx1]
theorem textB_up (s : List UInt8) : (textB s).length ≤ s.length + 10 := by
  unfold textB
  rw [List.length_append]
  have := numB_length (s.length : Int)
  omega
theorem ups_len_le {us : List UpM} (h : ∀ u ∈ us, upOk u) : (us.flatMap upB).length ≤ (us.map fun u => u.name.length + 74).sum := by
  induction us with
  | nil => simp
  | cons u r ih =>
    have h1 := ih (fun v hv => h v (List.mem_cons_of_mem _ hv))
    have h2 := upB_len (h u List.mem_cons_self)
    have h3 := textB_up u.name
    simp only [List.flatMap_cons, List.length_append, List.map_cons, List.sum_cons]
    omega
theorem payload_le {t : TxM} (h : TxOk t) : (payloadB t).length ≤ 62 + t.head.length + (t.us.map fun u => u.name.length + 74).sum := by
  unfold payloadB
  have h1 := numB_length (t.us.length : Int)
  have h2 := ups_len_le h.us
  have h3 := textB_up t.head
  have h4 := h.al
  simp only [List.length_append]
  omega
theorem record_le {t : TxM} (h : TxOk t) : (recordB t).length ≤ 76 + t.head.length + (t.us.map fun u => u.name.length + 74).sum := by
  have h0 := payload_le h
  have h1 := numB_length ((payloadB t).length : Int)
  have h2 : (fourB (crc (payloadB t)).toNat).length = 4 := rfl
  unfold recordB
  simp only [List.length_append]
  omega
theorem record1_le {u : UpM} (h : upOk u) : (recordB (tx1 u)).length ≤ 150 + u.name.length := by
  have h1 := record_le (tx1_ok h)
  simp only [tx1, List.map_cons, List.map_nil, List.sum_cons, List.sum_nil, List.length_nil] at h1
  unfold tx1
  omega
end Go.Proofs.YtelbofikcpchiaaGreat

/-! Refs: is a turn short? -/

namespace Go.Proofs.YtelbofikcpchiaaGreat

set_option linter.unusedVariables false

set_option linter.unusedSimpArgs false

set_option linter.unusedSectionVars false

open Go.RowKit

/-- a turn as an input may be -/
structure TxRaw (t : TxM) : Prop where
  al : t.at_.length = 32
  us : ∀ u ∈ t.us, u.old.length = 32 ∧ u.new.length = 32 ∧ u.name.length ≤ 140737488355328
  hd : t.head.length ≤ 140737488355328
  ul : t.us.length ≤ 140737488355328
def fewL : List UpM → Nat → Nat
  | [], z => z
  | u :: r, z => if z < 1000 then fewL r (z + u.name.length) else z
def fewB (t : TxM) : Bool := decide (fewL t.us (t.head.length + t.us.length) < 1000)
theorem fewL_ge (us : List UpM) : ∀ z, z ≤ fewL us z := by
  induction us with
  | nil => intro z; exact Nat.le_refl _
  | cons u r ih =>
    intro z
    simp only [fewL]
    split
    · have := ih (z + u.name.length); omega
    · exact Nat.le_refl _
theorem fewL_sum (us : List UpM) : ∀ z, fewL us z < 1000 → z + (us.map fun u => u.name.length).sum < 1000 := by
  induction us with
  | nil => intro z h; simpa [fewL] using h
  | cons u r ih =>
    intro z h
    simp only [fewL] at h
    split at h
    · have := ih _ h
      simp only [List.map_cons, List.sum_cons]
      omega
    · omega
theorem few_sum {t : TxM} (h : fewB t = true) : t.head.length + t.us.length + (t.us.map fun u => u.name.length).sum < 1000 := fewL_sum _ _ (of_decide_eq_true h)
theorem few_ok {t : TxM} (h : fewB t = true) (hr : TxRaw t) : TxOk t := by
  have h1 := few_sum h
  refine ⟨hr.al, fun u hu => ?_, by omega, by omega⟩
  have h2 := hr.us u hu
  have h3 : u.name.length ≤ (t.us.map fun u => u.name.length).sum := by
    have : ∀ l : List UpM, u ∈ l → u.name.length ≤ (l.map fun u => u.name.length).sum := by
      intro l
      induction l with
      | nil => intro h; cases h
      | cons v r ih =>
        intro hm
        simp only [List.map_cons, List.sum_cons]
        rcases List.mem_cons.1 hm with rfl | hm
        · omega
        · have := ih hm; omega
    exact this _ hu
  exact ⟨h2.1, h2.2.1, by omega⟩
end Go.Proofs.YtelbofikcpchiaaGreat

/-! Refs: is a turn short? The walk. -/

namespace Go.Proofs.YtelbofikcpchiaaGreat

set_option linter.unusedVariables false

set_option linter.unusedSimpArgs false

set_option linter.unusedSectionVars false

open Go.RowKit

set_option maxRecDepth 100000 in
set_option maxHeartbeats 4000000 in
theorem few_any (A : Option Addr) (n c : Nat) (t : TxM) (hn : t.us.length = n) (ht : TxRaw t) (w : World) (hr : Rd w A (upsC t.us)) :
    Calls Tryz.prog 14 #[.agg (txC A n c t).toArray] w fun e w' => e = .returned (.bool (fewB t)) ∧ Below w.heap.size w w' := by
  obtain ⟨g1, hg⟩ : ∃ g, w.heap.size = g := ⟨_, rfl⟩
  obtain ⟨W1, hW1⟩ : ∃ W, w.alloc (.cells (txC A n c t).toArray 28) = W := ⟨_, rfl⟩
  obtain ⟨r1, b1, s1⟩ := new_row hW1
  rw [hg] at r1
  have HB1 := Lib.hid b1
  obtain ⟨X, hX, hXs⟩ : ∃ X : ByteArray, strV t.head = .string X ∧ X.data.toList = t.head := ⟨_, rfl, rfl⟩
  obtain ⟨c0, c1, _⟩ := tx_cells r1
  rw [hX] at c1
  have hxm : X.size ≤ 140737488355328 := by have h1 := ht.hd; rw [← hXs, ← Lib.size_eq] at h1; omega
  have hnm : n ≤ 140737488355328 := by have h1 := ht.ul; omega
  have HF : Hid (fewB t = decide (fewL t.us (X.size + n) < 1000)) := Lib.hid (by unfold fewB; rw [hn, ← hXs, ← Lib.size_eq])
  rw [HF.out]
  have HN := Lib.hid hn
  have HT := Lib.hid ht
  have HRD := Lib.hid (hr.below b1)
  obtain ⟨lt, hlt⟩ : ∃ l, txC A n c t = l := ⟨_, rfl⟩
  rw [hlt] at hW1 ⊢
  clear hn ht b1 s1 r1 hX hXs hlt hr
  go_enter Tryz.func14, Tryz.ntmps14
  go_wp2_with fail
  try rw [hg]
  clear hW1
  go_loopg [3, 4] (n * 1) (fun gk_ sv iv wr => ∃ (i z : Nat), i ≤ n ∧ gk_ = n - i ∧ sv = .int .i64 (z : Int) ∧ iv = .int .i64 (i : Int) ∧ Hid (fewL (t.us.drop i) z = fewL t.us (X.size + n)) ∧ Hid (wr = W1) ∧ Hid (i = 0 → z = X.size + n))
  case atStart => exact ⟨0, X.size + n, by omega, by omega, by first | rfl | exact congrArg (Value.int .i64) (by omega) | go_num, rfl, Lib.hid rfl, Lib.hid rfl, Lib.hid (fun _ => rfl)⟩
  case round =>
  obtain ⟨i, z, hi, rfl, rfl, rfl, HZ, HW, H0⟩ := hrel
  obtain rfl := HW.out
  clear HW
  by_cases hlt : i < n
  · have j1 : (i : Int) < (n : Int) := by omega
    have hil : i < t.us.length := by rw [HN.out]; exact hlt
    by_cases hz : z < 1000
    · have j2 : (z : Int) < 1000 := by omega
      obtain ⟨u, hu⟩ : ∃ u, t.us[i] = u := ⟨_, rfl⟩
      have hum : u.old.length = 32 ∧ u.new.length = 32 ∧ u.name.length ≤ 140737488355328 := HT.out.us u (by rw [← hu]; exact List.getElem_mem hil)
      have hcl : ∀ x ∈ t.us, (upC x).length = 65 := fun x hx => by simp [upC, b8s_length, (HT.out.us x hx).1, (HT.out.us x hx).2.1]
      have hrd := HRD.out
      obtain ⟨b, o, hA, _⟩ := hrd.all (by unfold upsC; rw [flat_length t.us hcl, HN.out]; omega)
      rw [hA] at hrd
      have hrow := rd_flat (f := upC) (m := 65) hrd hcl i hil
      rw [hu] at hrow
      obtain ⟨Y, hY, hYs⟩ : ∃ Y : ByteArray, strV u.name = .string Y ∧ Y.data.toList = u.name := ⟨_, rfl, rfl⟩
      have cy : (wr.cell? ⟨b, o + i * 65, none⟩) = some (.string Y) := by
        have h1 := hrow 0 (strV u.name) rfl
        rw [hY] at h1
        exact h1
      have hym : Y.size ≤ 140737488355328 := by have h1 := hum.2.2; rw [← hYs, ← Lib.size_eq] at h1; omega
      have HNX : Hid (fewL (t.us.drop (i + 1)) (z + Y.size) = fewL t.us (X.size + n)) := Lib.hid (by
        have h1 := HZ.out
        rw [List.drop_eq_getElem_cons hil, hu] at h1
        simp only [fewL, if_pos hz] at h1
        rw [Lib.size_eq, hYs]
        exact h1)
      have HA := Lib.hid hA
      subst hA
      clear hrow hrd hcl hum hY hYs hu hil HZ
      go_wp2_with fail
      go_roundg (n - (i + 1))
      case measure => omega
      case rel => exact ⟨i + 1, z + Y.size, by omega, rfl, by first | rfl | exact congrArg (Value.int .i64) (by omega) | go_num, by first | rfl | exact congrArg (Value.int .i64) (by omega) | go_num, HNX, Lib.hid rfl, Lib.hid (fun h => by omega)⟩
    · have j2 : ¬ (z : Int) < 1000 := by omega
      have HR : Hid (fewL t.us (X.size + n) = z) := Lib.hid (by
        have h1 := HZ.out
        rw [List.drop_eq_getElem_cons hil] at h1
        simp only [fewL, if_neg hz] at h1
        exact h1.symm)
      go_wp2_with fail
      go_ret
      exact ⟨by rw [HR.out, decide_eq_false hz]; rfl, by first | exact HB1.out | (rw [← hg]; exact HB1.out)⟩
  · obtain rfl : i = n := by omega
    have HR : Hid (fewL t.us (X.size + i) = z) := Lib.hid (by
      have h1 := HZ.out
      rw [List.drop_eq_nil_of_le (by rw [HN.out]; exact Nat.le_refl _)] at h1
      exact h1.symm)
    have e1 : decide ((z : Int) < 1000) = decide (z < 1000) := by rw [decide_eq_decide]; omega
    go_wp2_with fail
    go_ret
    exact ⟨by rw [HR.out]; first | rfl | rw [e1], by first | exact HB1.out | (rw [← hg]; exact HB1.out)⟩
end Go.Proofs.YtelbofikcpchiaaGreat

/-! Refs: a new disk's refs, turn by turn; the document's example. -/

namespace Go.Proofs.YtelbofikcpchiaaGreat

set_option linter.unusedVariables false

set_option linter.unusedSimpArgs false

set_option linter.unusedSectionVars false

open Go.RowKit

/-- refs and the disk that holds their file alone -/
structure RefsAt (N : Nat) (w : World) (g gr : Nat) (r : RfM) (bs : List UInt8) (room L : Nat) (d : DA) (q : QA) : Prop where
  dr : DR N w g (stR bs room) d gr r q
  fit : Fit 5 L (stR bs room)
  ok : RfOk r
  st : r.stuck = false
/-- where they lie -/
def footA (g gr : Nat) (d : DA) (q : QA) (b : Nat) : Prop := foot g d b ∨ footR gr q b
section

variable {N g gr room L : Nat} {w w' : World} {r : RfM} {bs : List UInt8} {d : DA} {q : QA}

theorem RefsAt.below (h : RefsAt N w g gr r bs room L d q) (hb : Below w.heap.size w w') : RefsAt N w' g gr r bs room L d q := ⟨h.dr.below hb, h.fit, h.ok, h.st⟩
theorem RefsAt.foot_ge (h : RefsAt N w g gr r bs room L d q) {b : Nat} (hb : footA g gr d q b) : N ≤ b := by
  rcases hb with hb | hb
  · exact h.dr.disk.foot_ge hb
  · exact h.dr.refs.foot_ge hb
theorem RefsAt.foot_lt (h : RefsAt N w g gr r bs room L d q) {b : Nat} (hb : footA g gr d q b) : b < w.heap.size := by
  rcases hb with hb | hb
  · exact h.dr.disk.foot_lt hb
  · exact h.dr.refs.foot_lt hb
theorem open_at {n : Int} (h : DiskIn N w g (newM n) d) (hn : n ≤ 9223372036854775807) :
    Calls Tryz.prog 9 #[.pointer (some ⟨g, 0, none⟩)] w fun e w' => ∃ gr d' q, e = .returned (.tuple #[.pointer (some ⟨gr, 0, none⟩), .int .i64 0]) ∧ RefsAt N w' g gr rf0 [] (max n 0).toNat 0 d' q ∧ Below N w w' := by
  refine (open_new h (fit_new n hn) (by omega) (by omega) rfl (read_new n) (create_new n) (flush_new n)).mono ?_
  rintro e w' ⟨gr, d', q, rfl, h1, h2, h3⟩
  exact ⟨gr, d', q, rfl, ⟨h1, h2.mono (by omega) (by omega), rf0_ok, rfl⟩, h3⟩
theorem RefsAt.turn (h : RefsAt N w g gr r bs room L d q) (hL : L ≤ 1000000000000) (A : Option Addr) (n c : Nat) (t : TxM) (hn : t.us.length = n) (ht : TxOk t) (hr : Rd w A (upsC t.us)) (hA : SafeA A t.us (footA g gr d q))
    (hpl : (payloadB t).length ≤ 1000000000) (hal : r.all.length ≤ 1000000 ∧ r.log.length ≤ 1000000) (hroom : bs.length + (recordB t).length ≤ room) :
    Calls Tryz.prog 10 #[.pointer (some ⟨gr, 0, none⟩), .agg (txC A n c t).toArray] w fun e w' => e = .returned (.int .i64 (doP r t).2) ∧ ∃ d' q', RefsAt N w' g gr (doP r t).1 (bytP r bs t) room (L + (recordB t).length) d' q' ∧ Below N w w' ∧ (∀ b, b < w.heap.size → ¬ footA g gr d q b → w'.heap[b]? = w.heap[b]? ∧ ¬ footA g gr d' q' b) := by
  refine (do_room h.dr h.fit hL h.ok h.st A n c t hn ht hr hA hpl hal hroom).mono ?_
  rintro e w' ⟨rfl, d', q', h1, h2, h3, h4⟩
  refine ⟨rfl, d', q', ⟨h1, h2, doP_ok h.ok ht, by rw [doP_stuck]; exact h.st⟩, h3.below h.dr.disk.size (fun i hi => h.foot_ge hi), fun b hb hn => ⟨h3.block b hb hn, fun hf => ?_⟩⟩
  rcases h4 b hf with h5 | h5
  · exact hn h5
  · omega
end

def I1 : List UInt8 := 1 :: List.replicate 31 0
def I2 : List UInt8 := 2 :: List.replicate 31 0
def I3 : List UInt8 := 3 :: List.replicate 31 0
def tagV : List UInt8 := [116, 97, 103, 115, 47, 118]
def uA : UpM := ⟨mainB, Z32, I1⟩
def uB : UpM := ⟨tagV, Z32, I2⟩
def uC : UpM := ⟨mainB, Z32, I3⟩
def rA : RfM := makeR rf0 (tx1 uA)
def twoT : TxM := ⟨[uB, uC], [], Z32⟩
theorem aliveP : doP rf0 (tx1 uA) = (rA, 0) ∧ checkR rA (tx1 uA) = 101 ∧ checkR rA twoT = 101 ∧ headR rA = I1 ∧ rA.head = mainB ∧ getA rA.all tagV = Z32 ∧ rA.all.length = 1 ∧ rA.log.length = 1 := by decide +kernel
end Go.Proofs.YtelbofikcpchiaaGreat
