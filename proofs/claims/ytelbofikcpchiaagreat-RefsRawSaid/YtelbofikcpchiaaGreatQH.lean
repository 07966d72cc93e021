/- Refs: a new disk's refs, turn by turn; the document's example. (With the texts that it stands on.) -/
import Derived.Test.YtelbofikcpchiaaGreatQP
namespace Go.Proofs.YtelbofikcpchiaaGreat
def stR (bs : List UInt8) (room : Nat) : DM := ⟨[⟨bs, bs.length⟩], [(refsB, 0)], [(refsB, 0)], [], room, 0, false⟩
def stU (bs : List UInt8) (sf room : Nat) : DM := ⟨[⟨bs, sf⟩], [(refsB, 0)], [(refsB, 0)], [], room, 0, false⟩
theorem read_new (n : Int) : readM (newM n) refsB = ([], 4) := rfl
theorem create_new (n : Int) : createM (newM n) refsB = (⟨[⟨[], 0⟩], [(refsB, 0)], [], [⟨[], refsB, 0⟩], (max n 0).toNat, 0, false⟩, 0) := rfl
theorem flush_new (n : Int) : flushM ⟨[⟨[], 0⟩], [(refsB, 0)], [], [⟨[], refsB, 0⟩], (max n 0).toNat, 0, false⟩ = (stR [] (max n 0).toNat, 0) := rfl
theorem append_stR {bs rb : List UInt8} {room : Nat} (h : bs.length + rb.length ≤ room) : appendM (stR bs room) refsB rb = (stU (bs ++ rb) bs.length room, 0) := by
 have hr : roomM (stR bs room) = room - (bs.length + 0) := rfl
 have hf : findM (stR bs room) refsB = (some 0, 0) := rfl
 unfold appendM
 rw [hf]
 simp only
 rw [hr, if_neg (by omega)]
 rfl
theorem sync_stU (bs : List UInt8) (sf room : Nat) : syncM (stU bs sf room) refsB = (stR bs room, 0) := rfl
theorem rf0_ok : RfOk rf0 where
 al := rfl
 ids := by intro p hp; simp [rf0] at hp
 log := by intro u hu; simp [rf0] at hu
 rn := List.Pairwise.nil
 hd := by decide
def doP (r : RfM) (t : TxM) : RfM × Int :=
 if checkR r t ≠ 0 then (r, checkR r t) else if emptyT t then (r, 0) else (makeR r t, 0)
theorem doP_stuck (r : RfM) (t : TxM) : (doP r t).1.stuck = r.stuck := by
 unfold doP
 split
 ·rfl
 ·split <;> rfl
theorem doP_ok {r : RfM} {t : TxM} (h : RfOk r) (ht : TxOk t) : RfOk (doP r t).1 := by
 unfold doP
 split
 ·exact h
 ·split
  ·exact h
  ·exact makeR_ok h ht
def bytP (r : RfM) (bs : List UInt8) (t : TxM) : List UInt8 := if checkR r t ≠ 0 then bs else if emptyT t then bs else bs ++ recordB t
theorem do_room {N gr g L room : Nat} {bs : List UInt8} {w : World} {d : DA} {r : RfM} {q : QA} (h : DR N w g (stR bs room) d gr r q) (hf : Fit 5 L (stR bs room)) (hL : L ≤ 1000000000000) (hk : RfOk r) (hs : r.stuck = false)
  (A : Option Addr) (n c : Nat) (t : TxM) (hn : t.us.length = n) (ht : TxOk t) (hr : Rd w A (upsC t.us)) (hA : SafeA A t.us fun b => foot g d b ∨ footR gr q b)
  (hpl : (payloadB t).length ≤ 1000000000) (hal : r.all.length ≤ 1000000 ∧ r.log.length ≤ 1000000) (hroom : bs.length + (recordB t).length ≤ room) :
  Calls Tryz.prog 10 #[.pointer (some ⟨gr, 0, none⟩), .agg (txC A n c t).toArray] w fun e w' => e = .returned (.int .i64 (doP r t).2) ∧ ∃ d' q', DR N w' g (stR (bytP r bs t) room) d' gr (doP r t).1 q' ∧ Fit 5 (L + (recordB t).length) (stR (bytP r bs t) room) ∧ Frm (fun b => foot g d b ∨ footR gr q b) w w' ∧ (∀ b, foot g d' b ∨ footR gr q' b → (foot g d b ∨ footR gr q b) ∨ w.heap.size ≤ b) := by
 by_cases hz : checkR r t = 0
 ·cases he : emptyT t with
  | true =>
    have e1 : doP r t = (r, 0) := by unfold doP; rw [if_neg (by rw [hz]; simp), if_pos he]
    have e2 : bytP r bs t = bs := by unfold bytP; rw [if_neg (by rw [hz]; simp), if_pos he]
    rw [e1, e2]
    refine (do_empty h.refs hk A n c t hn ht hr hz he).mono ?_
    rintro e w' ⟨rfl, hb⟩
    exact ⟨rfl, d, q, h.below hb, hf.mono (Nat.le_refl _) (by omega), Frm.of_below hb, fun b hb => .inl hb⟩
  | false =>
    have e1 : doP r t = (makeR r t, 0) := by unfold doP; rw [if_neg (by rw [hz]; simp), if_neg (by rw [he]; simp)]
    have e2 : bytP r bs t = bs ++ recordB t := by unfold bytP; rw [if_neg (by rw [hz]; simp), if_neg (by rw [he]; simp)]
    rw [e1, e2]
    exact do_made h hf (by omega) hL hk hs A n c t hn ht hr hA hz he hpl hal (append_stR hroom) (sync_stU _ _ _)
 ·have e1 : doP r t = (r, checkR r t) := by unfold doP; rw [if_pos hz]
  have e2 : bytP r bs t = bs := by unfold bytP; rw [if_pos hz]
  rw [e1, e2]
  refine (do_bad h.refs hk A n c t hn ht hr rfl hz).mono ?_
  rintro e w' ⟨rfl, hb⟩
  exact ⟨rfl, d, q, h.below hb, hf.mono (Nat.le_refl _) (by omega), Frm.of_below hb, fun b hb => .inl hb⟩
open Go.RowKit
theorem cells32 {l : List UInt8} (h : l.length = 32) : ∃ a0 a1 a2 a3 a4 a5 a6 a7 a8 a9 b0 b1 b2 b3 b4 b5 b6 b7 b8 b9 c0 c1 c2 c3 c4 c5 c6 c7 c8 c9 d0 d1, l = [a0, a1, a2, a3, a4, a5, a6, a7, a8, a9, b0, b1, b2, b3, b4, b5, b6, b7, b8, b9, c0, c1, c2, c3, c4, c5, c6, c7, c8, c9, d0, d1] := by
 match l, h with
 | [a0, a1, a2, a3, a4, a5, a6, a7, a8, a9, b0, b1, b2, b3, b4, b5, b6, b7, b8, b9, c0, c1, c2, c3, c4, c5, c6, c7, c8, c9, d0, d1], _ => exact ⟨a0, a1, a2, a3, a4, a5, a6, a7, a8, a9, b0, b1, b2, b3, b4, b5, b6, b7, b8, b9, c0, c1, c2, c3, c4, c5, c6, c7, c8, c9, d0, d1, rfl⟩
theorem up_built {u : UpM} (h : upOk u) : Tryz.prog.built 31 [(0, strV u.name), (1, .agg (b8s u.old).toArray), (2, .agg (b8s u.new).toArray)] = some (upC u).toArray := by
 obtain ⟨nm, old, new⟩ := u
 obtain ⟨a0, a1, a2, a3, a4, a5, a6, a7, a8, a9, b0, b1, b2, b3, b4, b5, b6, b7, b8, b9, c0, c1, c2, c3, c4, c5, c6, c7, c8, c9, d0, d1, rfl⟩ := cells32 h.1
 obtain ⟨e0, e1, e2, e3, e4, e5, e6, e7, e8, e9, f0, f1, f2, f3, f4, f5, f6, f7, f8, f9, g0, g1, g2, g3, g4, g5, g6, g7, g8, g9, h0, h1, rfl⟩ := cells32 h.2.1
 kernel_rfl
theorem tx_built (A : Option Addr) (n c : Nat) : Tryz.prog.built 28 [(0, .slice A n c)] = some (txC A n c ⟨[], [], Z32⟩).toArray := by kernel_rfl
set_option maxRecDepth 100000 in
set_option maxHeartbeats 8000000 in
theorem lawturn_any (S : ByteArray) (u : UpM) (hu : strV u.name = .string S) (hk : upOk u) (w : World) :
  Calls Tryz.prog 27 #[.string S, .agg (b8s u.old).toArray, .agg (b8s u.new).toArray] w fun e w' => ∃ b, w.heap.size ≤ b ∧ e = .returned (.agg (txC (some ⟨b, 0, none⟩) 1 1 ⟨[u], [], Z32⟩).toArray) ∧ Below w.heap.size w w' ∧ Rd w' (some ⟨b, 0, none⟩) (upsC [u]) := by
 obtain ⟨p0, hp0⟩ := eX w.heap.size
 obtain ⟨W1, hW1⟩ := eX (w.alloc (.cells (b8s u.old).toArray 24))
 obtain ⟨p1, hp1⟩ := eX W1.heap.size
 obtain ⟨W2, hW2⟩ := eX (W1.alloc (.cells (b8s u.new).toArray 24))
 obtain ⟨p2, hp2⟩ := eX W2.heap.size
 obtain ⟨W3, hW3⟩ := eX (W2.alloc (.cells #[Value.slice none 0 0, .string ⟨#[]⟩, Value.int .u8 0, .int .u8 0, .int .u8 0, .int .u8 0, .int .u8 0, .int .u8 0, .int .u8 0, .int .u8 0, .int .u8 0, .int .u8 0, .int .u8 0, .int .u8 0, .int .u8 0, .int .u8 0, .int .u8 0, .int .u8 0, .int .u8 0, .int .u8 0, .int .u8 0, .int .u8 0, .int .u8 0, .int .u8 0, .int .u8 0, .int .u8 0, .int .u8 0, .int .u8 0, .int .u8 0, .int .u8 0, .int .u8 0, .int .u8 0, .int .u8 0, .int .u8 0] 28))
 obtain ⟨p3, hp3⟩ := eX W3.heap.size
 obtain ⟨W4, hW4⟩ := eX (W3.alloc (.cells (upC u).toArray 31))
 obtain ⟨lz, hlz⟩ := eX (txC none 0 0 t0)
 have hlz' : lz.toArray = #[Value.slice none 0 0, .string ⟨#[]⟩, Value.int .u8 0, .int .u8 0, .int .u8 0, .int .u8 0, .int .u8 0, .int .u8 0, .int .u8 0, .int .u8 0, .int .u8 0, .int .u8 0, .int .u8 0, .int .u8 0, .int .u8 0, .int .u8 0, .int .u8 0, .int .u8 0, .int .u8 0, .int .u8 0, .int .u8 0, .int .u8 0, .int .u8 0, .int .u8 0, .int .u8 0, .int .u8 0, .int .u8 0, .int .u8 0, .int .u8 0, .int .u8 0, .int .u8 0, .int .u8 0, .int .u8 0, .int .u8 0] := by rw [← hlz]; rfl
 obtain ⟨r1, b1, s1⟩ := new_row hW1
 obtain ⟨r2, b2, s2⟩ := new_row hW2
 obtain ⟨r3, b3, s3⟩ := new_row hW3
 obtain ⟨r4, b4, s4⟩ := new_row hW4
 rw [hp0] at r1
 rw [hp1] at r2
 rw [hp2, ← hlz'] at r3
 rw [hp3] at r4
 have b13 : Below W1.heap.size W1 W3 := b2.trans (b3.mono b2.size)
 have HR1 := h_ (range_of_row ((b13.block _ (Array.getElem?_eq_some_iff.1 r1).1).trans r1))
 have HR2 := h_ (range_of_row ((b3.block _ (Array.getElem?_eq_some_iff.1 r2).1).trans r2))
 have HB4 : Hid (Below w.heap.size w W4) := h_ ((b1.trans (b13.mono b1.size)).trans (b4.mono (b1.trans (b13.mono b1.size)).size))
 have r3' := (b4.block _ (Array.getElem?_eq_some_iff.1 r3).1).trans r3
 obtain ⟨lt, hlt⟩ := eX (txC (some ⟨p3, 0, none⟩) 1 1 ⟨[u], [], Z32⟩)
 obtain ⟨W5, hW5, T5, R5, G5⟩ := put_rowR (new := lt) r3' (by rw [← hlt, ← hlz]; rfl)
 have HW5 := h_ hW5
 have h13 : w.heap.size ≤ p2 := by have := b1.size; have := b2.size; omega
 have h23 : p2 < p3 := by rw [← hp3]; exact (Array.getElem?_eq_some_iff.1 r3).1
 have HB5 : Hid (Below w.heap.size w W5) := h_ (bel_grown HB4.out HB4.out.size G5.out h13)
 have HRD : Hid (Rd W5 (some ⟨p3, 0, none⟩) (upsC [u])) := h_ (by
  have h1 := (G5.out.block _ (Array.getElem?_eq_some_iff.1 r4).1 (fun e => by have := Option.some.inj e; omega)).trans r4
  have e : upsC [u] = upC u := by simp [upsC]
  rw [e]
  exact range_rd (range_of_row h1))
 have HLE : Hid (w.heap.size ≤ p3) := h_ (by omega)
 have HUB : Hid (Tryz.prog.built 31 [(0, .string S), (1, .agg (b8s u.old).toArray), (2, .agg (b8s u.new).toArray)] = some (upC u).toArray) := h_ (by rw [← hu]; exact up_built hk)
 have HTB : Hid (Tryz.prog.built 28 [(0, .slice (some ⟨p3, 0, none⟩) 1 1)] = some lt.toArray) := h_ (by rw [← hlt]; exact tx_built _ _ _)
 have HIO := h_ (info_idl u.old hk.1)
 have HIN := h_ (info_idl u.new hk.2.1)
 have HIA : Hid ((Tryz.prog.info? 28).map (·.size) = some lt.toArray.size) := h_ (by rw [← hlt]; exact info_txa rfl)
 have HOC : Hid (lt.toArray.all (·.oneCell') = true) := h_ (all_oneCell_toArray (by rw [← hlt]; exact txC_one _ _ _ _))
 have HIB : Hid ((Tryz.prog.info? 31).map (fun i => (i.size, i.zero.isSome)) = some ((upC u).length, true)) := h_ (by rw [upC_len hk]; kernel_rfl)
 have HUL := h_ (upC_len hk)
 have HLT := h_ hlt
 have HL2 : Hid (lt.toArray = #[Value.slice (some ⟨p3, 0, none⟩) 1 1, Value.string ⟨#[]⟩, Value.int .u8 0, .int .u8 0, .int .u8 0, .int .u8 0, .int .u8 0, .int .u8 0, .int .u8 0, .int .u8 0, .int .u8 0, .int .u8 0, .int .u8 0, .int .u8 0, .int .u8 0, .int .u8 0, .int .u8 0, .int .u8 0, .int .u8 0, .int .u8 0, .int .u8 0, .int .u8 0, .int .u8 0, .int .u8 0, .int .u8 0, .int .u8 0, .int .u8 0, .int .u8 0, .int .u8 0, .int .u8 0, .int .u8 0, .int .u8 0, .int .u8 0, .int .u8 0]) := h_ (by rw [← hlt]; rfl)
 rw [hlt.symm] at hlt
 obtain ⟨lo, hlo⟩ := eX (b8s u.old)
 obtain ⟨ln, hln⟩ := eX (b8s u.new)
 obtain ⟨la, hla⟩ := eX (upC u)
 rw [hla] at hW4 HUB HIB HUL
 rw [hlo] at hW1 HR1 HUB HIO ⊢
 rw [hln] at hW2 HR2 HUB HIN ⊢
 clear hlo hln hla r1 r2 r3 r4 r3' b1 b2 b3 b4 s1 s2 s3 s4 b13 hW5 h13 h23 hlz hlz' hk hu hlt
 go_enter Tryz.func27, Tryz.ntmps27
 go_wp2_with (first
  | ((with_reducible (refine wpList_load_cells 24 _ p0 0 (lo) HR1.out Tryz.underlying24 rfl HIO.out ?_ rfl ?_ ?_)); exact rfl; (exact rfl))
  | ((with_reducible (refine wpList_load_cells 24 _ p1 0 (ln) HR2.out Tryz.underlying24 rfl HIN.out ?_ rfl ?_ ?_)); exact rfl; (exact rfl))
  | ((with_reducible (refine wpList_built ?_ _ #[(0, .tmp 7), (1, .tmp 8), (2, .tmp 9)] ?_ _ ?_ _ HUB.out ?_)); exact rfl; exact rfl; (exact rfl))
  | ((with_reducible (refine wpList_built ?_ _ #[(0, .tmp 11)] ?_ _ ?_ _ HTB.out ?_)); exact rfl; exact rfl; (exact rfl))
  | (refine wpList_build1 rfl 26 31 _ rfl la rfl Tryz.underlying26 HIB.out (by rw [HUL.out]; omega) (by rw [HUL.out]; omega) ?_)
  | (rw [← HL2.out]; ((with_reducible (refine wpList_store_mid rfl _ _ _ rfl ?_ ?_ ?_ ?_ ?_ ?_ ?_ ?_ ?_)); exact p2; exact 0; (exact (lt).toArray); exact rfl; exact rfl; exact T5.out; exact HIA.out; exact HOC.out; rw [HW5.out])))
 refine bodyPost_ret (results_row1 rfl _ _ _ _ _ _ _ rfl R5.out Tryz.underlying28 rfl HIA.out) rfl ?_
 exact ⟨p3, by first | exact HLE.out | (rw [← hp0]; exact HLE.out), by rw [HLT.out], by first | exact HB5.out | (rw [← hp0]; exact HB5.out), HRD.out⟩
def tx1 (u : UpM) : TxM := ⟨[u], [], Z32⟩
theorem tx1_ok {u : UpM} (h : upOk u) : TxOk (tx1 u) where
 al := rfl
 us := by
  intro v hv
  simp only [tx1, List.mem_singleton] at hv
  rw [hv]
  exact h
 hd := by simp [tx1]
 ul := by simp [tx1]
theorem textB_up (s : List UInt8) : (textB s).length ≤ s.length + 10 := by
 unfold textB
 rw [List.length_append]
 have := numB_length (s.length : Int)
 omega
theorem ups_len_le {us : List UpM} (h : ∀ u ∈ us, upOk u) : (us.flatMap upB).length ≤ (us.map fun u => u.name.length + 74).sum := by
 induction us with
 | nil => simp
 | cons u r ih =>
   have h1 := ih (fun v hv => h v (List.mem_cons_of_mem _ hv))
   have h2 := upB_len (h u List.mem_cons_self)
   have h3 := textB_up u.name
   simp only [List.flatMap_cons, List.length_append, List.map_cons, List.sum_cons]
   omega
theorem payload_le {t : TxM} (h : TxOk t) : (payloadB t).length ≤ 62 + t.head.length + (t.us.map fun u => u.name.length + 74).sum := by
 unfold payloadB
 have h1 := numB_length (t.us.length : Int)
 have h2 := ups_len_le h.us
 have h3 := textB_up t.head
 have h4 := h.al
 simp only [List.length_append]
 omega
theorem record_le {t : TxM} (h : TxOk t) : (recordB t).length ≤ 76 + t.head.length + (t.us.map fun u => u.name.length + 74).sum := by
 have h0 := payload_le h
 have h1 := numB_length ((payloadB t).length : Int)
 have h2 : (fourB (crc (payloadB t)).toNat).length = 4 := rfl
 unfold recordB
 simp only [List.length_append]
 omega
theorem record1_le {u : UpM} (h : upOk u) : (recordB (tx1 u)).length ≤ 150 + u.name.length := by
 have h1 := record_le (tx1_ok h)
 simp only [tx1, List.map_cons, List.map_nil, List.sum_cons, List.sum_nil, List.length_nil] at h1
 unfold tx1
 omega
structure TxRaw (t : TxM) : Prop where
 al : t.at_.length = 32
 us : ∀ u ∈ t.us, u.old.length = 32 ∧ u.new.length = 32 ∧ u.name.length ≤ 140737488355328
 hd : t.head.length ≤ 140737488355328
 ul : t.us.length ≤ 140737488355328
structure RefsAt (N : Nat) (w : World) (g gr : Nat) (r : RfM) (bs : List UInt8) (room L : Nat) (d : DA) (q : QA) : Prop where
 dr : DR N w g (stR bs room) d gr r q
 fit : Fit 5 L (stR bs room)
 ok : RfOk r
 st : r.stuck = false
def footA (g gr : Nat) (d : DA) (q : QA) (b : Nat) : Prop := foot g d b ∨ footR gr q b
set_option linter.unusedSectionVars false
section
variable {N g gr room L : Nat} {w w' : World} {r : RfM} {bs : List UInt8} {d : DA} {q : QA}
theorem RefsAt.below (h : RefsAt N w g gr r bs room L d q) (hb : Below w.heap.size w w') : RefsAt N w' g gr r bs room L d q := ⟨h.dr.below hb, h.fit, h.ok, h.st⟩
theorem RefsAt.foot_ge (h : RefsAt N w g gr r bs room L d q) {b : Nat} (hb : footA g gr d q b) : N ≤ b := by
 rcases hb with hb | hb
 ·exact h.dr.disk.foot_ge hb
 ·exact h.dr.refs.foot_ge hb
theorem RefsAt.foot_lt (h : RefsAt N w g gr r bs room L d q) {b : Nat} (hb : footA g gr d q b) : b < w.heap.size := by
 rcases hb with hb | hb
 ·exact h.dr.disk.foot_lt hb
 ·exact h.dr.refs.foot_lt hb
theorem open_at {n : Int} (h : DiskIn N w g (newM n) d) (hn : n ≤ 9223372036854775807) :
  Calls Tryz.prog 9 #[.pointer (some ⟨g, 0, none⟩)] w fun e w' => ∃ gr d' q, e = .returned (.tuple #[.pointer (some ⟨gr, 0, none⟩), .int .i64 0]) ∧ RefsAt N w' g gr rf0 [] (max n 0).toNat 0 d' q ∧ Below N w w' := by
 refine (open_new h (fit_new n hn) (by omega) (by omega) rfl (read_new n) (create_new n) (flush_new n)).mono ?_
 rintro e w' ⟨gr, d', q, rfl, h1, h2, h3⟩
 exact ⟨gr, d', q, rfl, ⟨h1, h2.mono (by omega) (by omega), rf0_ok, rfl⟩, h3⟩
theorem RefsAt.turn (h : RefsAt N w g gr r bs room L d q) (hL : L ≤ 1000000000000) (A : Option Addr) (n c : Nat) (t : TxM) (hn : t.us.length = n) (ht : TxOk t) (hr : Rd w A (upsC t.us)) (hA : SafeA A t.us (footA g gr d q))
  (hpl : (payloadB t).length ≤ 1000000000) (hal : r.all.length ≤ 1000000 ∧ r.log.length ≤ 1000000) (hroom : bs.length + (recordB t).length ≤ room) :
  Calls Tryz.prog 10 #[.pointer (some ⟨gr, 0, none⟩), .agg (txC A n c t).toArray] w fun e w' => e = .returned (.int .i64 (doP r t).2) ∧ ∃ d' q', RefsAt N w' g gr (doP r t).1 (bytP r bs t) room (L + (recordB t).length) d' q' ∧ Below N w w' ∧ (∀ b, b < w.heap.size → ¬ footA g gr d q b → w'.heap[b]? = w.heap[b]? ∧ ¬ footA g gr d' q' b) := by
 refine (do_room h.dr h.fit hL h.ok h.st A n c t hn ht hr hA hpl hal hroom).mono ?_
 rintro e w' ⟨rfl, d', q', h1, h2, h3, h4⟩
 refine ⟨rfl, d', q', ⟨h1, h2, doP_ok h.ok ht, by rw [doP_stuck]; exact h.st⟩, h3.below h.dr.disk.size (fun i hi => h.foot_ge hi), fun b hb hn => ⟨h3.block b hb hn, fun hf => ?_⟩⟩
 rcases h4 b hf with h5 | h5
 ·exact hn h5
 ·omega
end
def I1 : List UInt8 := 1 :: List.replicate 31 0
def I2 : List UInt8 := 2 :: List.replicate 31 0
def I3 : List UInt8 := 3 :: List.replicate 31 0
def tagV : List UInt8 := [116, 97, 103, 115, 47, 118]
def uA : UpM := ⟨mainB, Z32, I1⟩
def uB : UpM := ⟨tagV, Z32, I2⟩
def uC : UpM := ⟨mainB, Z32, I3⟩
def rA : RfM := makeR rf0 (tx1 uA)
def twoT : TxM := ⟨[uB, uC], [], Z32⟩
theorem aliveP : doP rf0 (tx1 uA) = (rA, 0) ∧ checkR rA (tx1 uA) = 101 ∧ checkR rA twoT = 101 ∧ headR rA = I1 ∧ rA.head = mainB ∧ getA rA.all tagV = Z32 ∧ rA.all.length = 1 ∧ rA.log.length = 1 := by decide +kernel
end Go.Proofs.YtelbofikcpchiaaGreat
