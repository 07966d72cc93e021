
/- Read: what a reading holds. (Printed by wip/genL16.py.) -/

import Derived.Test.YtfjfidhhmidflaaLet9

import Derived.Test.YtfjfidhhmidflaaLet15

import Derived.Test.YtfjfidhhmidflaaLet6

namespace Go.Proofs.Ytfjfidhhmidflaa

set_option linter.unusedVariables false

set_option linter.unusedSimpArgs false

open Go.RowKit

/-! ### plain -/

def refsK : Nat → St → List RefM × St
  | 0, st => ([], st)
  | k + 1, st => let a := refsK k st; let t := getText a.2 60; let b := getId t.2; (a.1 ++ [⟨⟨t.1.toArray⟩, b.1⟩], b.2)
def getRefs (st : St) : List RefM × St := refsK (getNum st 100).1 (getNum st 100).2
theorem getText_size (st : St) (m : Int) : (⟨(getText st m).1.toArray⟩ : ByteArray).size ≤ 4611686018427387904 := by
  show (getText st m).1.toArray.size ≤ _
  rw [List.size_toArray]
  have h1 : (getText st m).1.length ≤ (getNum st m).1 := by
    unfold getText getN
    split
    · exact Nat.zero_le _
    · split
      · simp; omega
      · exact Nat.zero_le _
  exact Nat.le_trans h1 (getNum_le _ _)
theorem refsK_len (k : Nat) (st : St) : (refsK k st).1.length = k ∧ rOk (refsK k st).1 := by
  induction k with
  | zero => exact ⟨rfl, fun i hi => by cases hi⟩
  | succ k ih =>
    refine ⟨by simp [refsK, ih.1], fun i hi => ?_⟩
    simp only [refsK, List.mem_append, List.mem_singleton] at hi
    rcases hi with hi | rfl
    · exact ih.2 i hi
    · exact ⟨getId_len _, by have := getText_size (refsK k st).2 60; exact Nat.le_trans this (by decide)⟩
theorem rfc_snoc (a : List RefM) (b : RefM) : rfc (a ++ [b]) = rfc a ++ b.cells := by simp [rfc]
/-- the head that is read, the reader behind it -/
def headR (st : St) : Lt × St :=
  let k := getNum st 4
  let f := getNum k.2 65536
  let t := getNum f.2 65536
  let s := getNum t.2 1099511627776
  (⟨k.1, f.1, t.1, s.1, [], [], [], 0, 0, zeros32, []⟩, s.2)
def restR (x : Lt × St) : Lt × St :=
  let l := x.1
  if l.kind = 2 then
    let r := getRefs x.2
    (⟨l.kind, l.from_, l.to_, l.session, r.1, [], [], 0, 0, zeros32, []⟩, r.2)
  else if l.kind = 3 then
    let a := getIds x.2 100
    let b := getIds a.2 200
    let c := getNum b.2 1048576
    (⟨l.kind, l.from_, l.to_, l.session, [], a.1, b.1, c.1, 0, zeros32, []⟩, c.2)
  else if l.kind = 4 then
    let a := getId x.2
    let b := getNum a.2 1048576
    let c := getNum b.2 1048576
    let d := getText c.2 500
    (⟨l.kind, l.from_, l.to_, l.session, [], [], [], b.1, c.1, a.1, d.1⟩, d.2)
  else x
theorem restR_0 {l : Lt} {st : St} (h2 : l.kind ≠ 2) (h3 : l.kind ≠ 3) (h4 : l.kind ≠ 4) : restR (l, st) = (l, st) := by
  unfold restR; simp only; rw [if_neg h2, if_neg h3, if_neg h4]
theorem restR_2 {l : Lt} {st : St} (h2 : l.kind = 2) : restR (l, st) = (⟨l.kind, l.from_, l.to_, l.session, (getRefs st).1, [], [], 0, 0, zeros32, []⟩, (getRefs st).2) := by
  unfold restR; simp only; rw [if_pos h2]
theorem restR_3 {l : Lt} {st : St} (h3 : l.kind = 3) : restR (l, st) = (⟨l.kind, l.from_, l.to_, l.session, [], (getIds st 100).1, (getIds (getIds st 100).2 200).1, (getNum (getIds (getIds st 100).2 200).2 1048576).1, 0, zeros32, []⟩, (getNum (getIds (getIds st 100).2 200).2 1048576).2) := by
  unfold restR; simp only; rw [if_neg (by omega), if_pos h3]
theorem restR_4 {l : Lt} {st : St} (h4 : l.kind = 4) : restR (l, st) = (⟨l.kind, l.from_, l.to_, l.session, [], [], [], (getNum (getId st).2 1048576).1, (getNum (getNum (getId st).2 1048576).2 1048576).1, (getId st).1, (getText (getNum (getNum (getId st).2 1048576).2 1048576).2 500).1⟩, (getText (getNum (getNum (getId st).2 1048576).2 1048576).2 500).2) := by
  unfold restR; simp only; rw [if_neg (by omega), if_neg (by omega), if_pos h4]
def readL (bs : List UInt8) : Option Lt :=
  if bs.length < 4 ∨ 65536 < bs.length then none
  else if (getFour (some (bs.drop (bs.length - 4)))).1 ≠ (crc (bs.take (bs.length - 4))).toNat then none
  else
    let x := restR (headR (some (bs.take (bs.length - 4))))
    if doneS x.2 && rightL x.1 then some x.1 else none

/-! ### rows -/

/-- the lists of a letter that is read -/
structure LI (W : World) (T1 T2 : TypeId) (lo : Nat) (l : Lt) (p : LtP) : Prop where
  o1 : W.ownsRow lo T1 33 (.slice p.rA l.refs.length p.rc) l.refs.length (rfc l.refs)
  o2 : W.ownsRow lo T2 32 (.slice p.wA l.wants.length p.wc) l.wants.length (idc l.wants)
  o3 : W.ownsRow lo T2 32 (.slice p.hA l.haves.length p.hc) l.haves.length (idc l.haves)
  d : Rd W p.dA (b8s l.data) ∧ l.data.length ≤ p.dc ∧ p.dc ≤ 9223372036854775807 ∧ ∀ ad, p.dA = some ad → lo ≤ ad.block
  ok : rOk l.refs ∧ iOk l.wants ∧ iOk l.haves ∧ l.pack.length = 32
theorem LI.far {W W' : World} {T1 T2 : TypeId} {lo x : Nat} {l : Lt} {p : LtP} (h : LI W T1 T2 lo l p) (hx : x < lo) (hg : W.grownBy W' (some x)) : LI W' T1 T2 lo l p :=
  ⟨own_far h.o1 hx hg, own_far h.o2 hx hg, own_far h.o3 hx hg, ⟨h.d.1.grown hg (fun ad e => by have := h.d.2.2.2 ad e; simp; omega), h.d.2⟩, h.ok⟩
theorem LI.below {W W' : World} {T1 T2 : TypeId} {lo : Nat} {l : Lt} {p : LtP} (h : LI W T1 T2 lo l p) (hb : Below W.heap.size W W') : LI W' T1 T2 lo l p :=
  ⟨own_below h.o1 hb, own_below h.o2 hb, own_below h.o3 hb, ⟨h.d.1.below hb, h.d.2⟩, h.ok⟩
theorem own_bounds {w : World} {base : Nat} {e : TypeId} {size : Nat} {A : Option Addr} {n c m : Nat} {xs : List Value} (h : w.ownsRow base e size (.slice A n c) m xs) : m ≤ c ∧ c ≤ maxLen := by
  rcases h.2 with ⟨h0, hn⟩ | ⟨g, cap, cur, hv, _, _, h1, h2, _⟩
  · cases h0; subst hn; exact ⟨Nat.le_refl _, Nat.zero_le _⟩
  · cases hv; exact ⟨h1, h2⟩
theorem LI.in_ {W : World} {T1 T2 : TypeId} {lo : Nat} {l : Lt} {p : LtP} (h : LI W T1 T2 lo l p) : LtIn W l p :=
  ⟨h.ok.2.2.2, h.ok.1, h.ok.2.1, h.ok.2.2.1, ⟨own_rd h.o1, own_bounds h.o1⟩, ⟨own_rd h.o2, own_bounds h.o2⟩, ⟨own_rd h.o3, own_bounds h.o3⟩, ⟨h.d.1, h.d.2.1, h.d.2.2.1⟩⟩
theorem LI.start (W : World) (T1 T2 : TypeId) (lo : Nat) (k f t s o tt : Int) : LI W T1 T2 lo ⟨k, f, t, s, [], [], [], o, tt, zeros32, []⟩ p0 :=
  ⟨World.ownsRow_nil _ _ _ _, World.ownsRow_nil _ _ _ _, World.ownsRow_nil _ _ _ _, ⟨Rd.nil, Nat.le_refl _, Nat.zero_le _, fun ad e => by cases e⟩, ⟨fun r h => (by cases h), fun r h => (by cases h), fun r h => (by cases h), rfl⟩⟩

/-- the rows of a reading: the result's (g2), the letter's (g7), the reader (r) -/
structure RI (w W : World) (r K g2 g7 lo : Nat) (st : St) (l : Lt) (p : LtP) : Prop where
  m : RdrK W r K st
  r2 : W.heap[g2]? = some (.cells (lt0.cells p0).toArray 28 (0, 0))
  r7 : W.heap[g7]? = some (.cells (l.cells p).toArray 28 (0, 0))
  bw : Below w.heap.size w W
  ne : w.heap.size ≤ r ∧ w.heap.size ≤ g2 ∧ w.heap.size ≤ g7 ∧ r < lo ∧ g2 < lo ∧ g7 < lo ∧ g2 ≠ g7 ∧ g2 ≠ r ∧ g7 ≠ r ∧ K ≤ g7 ∧ K ≤ lo ∧ lo ≤ W.heap.size
  li : LI W 52 25 lo l p
section

variable {w W W' : World} {r K g2 g7 lo : Nat} {st st' : St} {l l' : Lt} {p p' : LtP}

theorem RI.call (h : RI w W r K g2 g7 lo st l p) (hm : RdrK W' r K st') (hg : W.grownBy W' (some r)) : RI w W' r K g2 g7 lo st' l p := by
  obtain ⟨n1, n2, n3, n4, n5, n6, n7, n8, n9, n10, n11, n12⟩ := h.ne
  exact ⟨hm, (hg.block _ (Array.getElem?_eq_some_iff.1 h.r2).1 (by simpa using n8)).trans h.r2, (hg.block _ (Array.getElem?_eq_some_iff.1 h.r7).1 (by simpa using n9)).trans h.r7, bel_grown h.bw h.bw.size hg n1,
    ⟨n1, n2, n3, n4, n5, n6, n7, n8, n9, n10, n11, Nat.le_trans n12 hg.size⟩, h.li.far n4 hg⟩
theorem RI.below (h : RI w W r K g2 g7 lo st l p) (hb : Below W.heap.size W W') : RI w W' r K g2 g7 lo st l p := h.call (h.m.below hb) (grown_of_below hb)
/-- the letter's row is written -/
theorem RI.put (h : RI w W r K g2 g7 lo st l p) (hg : W.grownBy W' (some g7)) (hr : W'.heap[g7]? = some (.cells (l'.cells p').toArray 28 (0, 0))) (hl : LI W' 52 25 lo l' p') : RI w W' r K g2 g7 lo st l' p' := by
  obtain ⟨n1, n2, n3, n4, n5, n6, n7, n8, n9, n10, n11, n12⟩ := h.ne
  exact ⟨h.m.far (fun e => n9 e.symm) n10 hg, (hg.block _ (Array.getElem?_eq_some_iff.1 h.r2).1 (by simpa using n7)).trans h.r2, hr, bel_grown h.bw h.bw.size hg n3,
    ⟨n1, n2, n3, n4, n5, n6, n7, n8, n9, n10, n11, Nat.le_trans n12 hg.size⟩, hl⟩
theorem RI.lif (h : RI w W r K g2 g7 lo st l p) (hg : W.grownBy W' (some g7)) : LI W' 52 25 lo l p := h.li.far h.ne.2.2.2.2.2.1 hg
end

section

variable {W : World} {g : Nat} {t : TypeId} {k f u s o tt : Int} {rs : List RefM} {ws hs : List (List UInt8)} {pk dt : List UInt8} {p : LtP}

theorem row_from (h : W.heap[g]? = some (.cells ((⟨k, f, u, s, rs, ws, hs, o, tt, pk, dt⟩ : Lt).cells p).toArray t (0, 0))) (x : Int) : (W.setCell ⟨g, 1, none⟩ (.int .i64 x)).heap[g]? = some (.cells ((⟨k, x, u, s, rs, ws, hs, o, tt, pk, dt⟩ : Lt).cells p).toArray t (0, 0)) := (row_set h 1 _).trans rfl
theorem row_to (h : W.heap[g]? = some (.cells ((⟨k, f, u, s, rs, ws, hs, o, tt, pk, dt⟩ : Lt).cells p).toArray t (0, 0))) (x : Int) : (W.setCell ⟨g, 2, none⟩ (.int .i64 x)).heap[g]? = some (.cells ((⟨k, f, x, s, rs, ws, hs, o, tt, pk, dt⟩ : Lt).cells p).toArray t (0, 0)) := (row_set h 2 _).trans rfl
theorem row_session (h : W.heap[g]? = some (.cells ((⟨k, f, u, s, rs, ws, hs, o, tt, pk, dt⟩ : Lt).cells p).toArray t (0, 0))) (x : Int) : (W.setCell ⟨g, 3, none⟩ (.int .i64 x)).heap[g]? = some (.cells ((⟨k, f, u, x, rs, ws, hs, o, tt, pk, dt⟩ : Lt).cells p).toArray t (0, 0)) := (row_set h 3 _).trans rfl
theorem row_off (h : W.heap[g]? = some (.cells ((⟨k, f, u, s, rs, ws, hs, o, tt, pk, dt⟩ : Lt).cells p).toArray t (0, 0))) (x : Int) : (W.setCell ⟨g, 7, none⟩ (.int .i64 x)).heap[g]? = some (.cells ((⟨k, f, u, s, rs, ws, hs, x, tt, pk, dt⟩ : Lt).cells p).toArray t (0, 0)) := (row_set h 7 _).trans rfl
theorem row_total (h : W.heap[g]? = some (.cells ((⟨k, f, u, s, rs, ws, hs, o, tt, pk, dt⟩ : Lt).cells p).toArray t (0, 0))) (x : Int) : (W.setCell ⟨g, 8, none⟩ (.int .i64 x)).heap[g]? = some (.cells ((⟨k, f, u, s, rs, ws, hs, o, x, pk, dt⟩ : Lt).cells p).toArray t (0, 0)) := (row_set h 8 _).trans rfl
theorem row_refs (h : W.heap[g]? = some (.cells ((⟨k, f, u, s, rs, ws, hs, o, tt, pk, dt⟩ : Lt).cells p).toArray t (0, 0))) (A : Option Addr) (c : Nat) (xs : List RefM) : (W.setCell ⟨g, 4, none⟩ (.slice A xs.length c)).heap[g]? = some (.cells ((⟨k, f, u, s, xs, ws, hs, o, tt, pk, dt⟩ : Lt).cells ⟨A, c, p.wA, p.wc, p.hA, p.hc, p.dA, p.dc⟩).toArray t (0, 0)) := (row_set h 4 _).trans rfl
theorem row_wants (h : W.heap[g]? = some (.cells ((⟨k, f, u, s, rs, ws, hs, o, tt, pk, dt⟩ : Lt).cells p).toArray t (0, 0))) (A : Option Addr) (c : Nat) (xs : List (List UInt8)) : (W.setCell ⟨g, 5, none⟩ (.slice A xs.length c)).heap[g]? = some (.cells ((⟨k, f, u, s, rs, xs, hs, o, tt, pk, dt⟩ : Lt).cells ⟨p.rA, p.rc, A, c, p.hA, p.hc, p.dA, p.dc⟩).toArray t (0, 0)) := (row_set h 5 _).trans rfl
theorem row_haves (h : W.heap[g]? = some (.cells ((⟨k, f, u, s, rs, ws, hs, o, tt, pk, dt⟩ : Lt).cells p).toArray t (0, 0))) (A : Option Addr) (c : Nat) (xs : List (List UInt8)) : (W.setCell ⟨g, 6, none⟩ (.slice A xs.length c)).heap[g]? = some (.cells ((⟨k, f, u, s, rs, ws, xs, o, tt, pk, dt⟩ : Lt).cells ⟨p.rA, p.rc, p.wA, p.wc, A, c, p.dA, p.dc⟩).toArray t (0, 0)) := (row_set h 6 _).trans rfl
theorem row_pack (h : W.heap[g]? = some (.cells ((⟨k, f, u, s, rs, ws, hs, o, tt, pk, dt⟩ : Lt).cells p).toArray t (0, 0))) (x : List UInt8) (hx : pk.length = x.length) : (W.setCells g 9 (b8s x)).heap[g]? = some (.cells ((⟨k, f, u, s, rs, ws, hs, o, tt, x, dt⟩ : Lt).cells p).toArray t (0, 0)) := by
  have h0 : W.heap[g]? = some (.cells (([.int .i64 k, .int .i64 f, .int .i64 u, .int .i64 s, .slice p.rA rs.length p.rc, .slice p.wA ws.length p.wc, .slice p.hA hs.length p.hc, .int .i64 o, .int .i64 tt] : List Value) ++ b8s pk ++ ([.slice p.dA dt.length p.dc] : List Value)).toArray t (0, 0)) := by
    rw [h]; congr 2
  have := row_setCells (b8s x) _ _ _ _ h0 (by rw [b8s_length, b8s_length, hx])
  exact this
theorem row_data (h : W.heap[g]? = some (.cells ((⟨k, f, u, s, rs, ws, hs, o, tt, pk, dt⟩ : Lt).cells p).toArray t (0, 0))) (hpk : pk.length = 32) (A : Option Addr) (c : Nat) (x : List UInt8) : (W.setCell ⟨g, 41, none⟩ (.slice A x.length c)).heap[g]? = some (.cells ((⟨k, f, u, s, rs, ws, hs, o, tt, pk, x⟩ : Lt).cells ⟨p.rA, p.rc, p.wA, p.wc, p.hA, p.hc, A, c⟩).toArray t (0, 0)) := by
  refine (row_set h 41 _).trans ?_
  congr 2; rw [← Array.toList_inj]
  have hq : (b8s pk).length = 32 := by rw [b8s_length, hpk]
  simp [Lt.cells, List.set_append, hq]
end

theorem readL_len {bs : List UInt8} (h : bs.length < 4 ∨ 65536 < bs.length) : readL bs = none := by unfold readL; rw [if_pos h]
theorem readL_sum {bs : List UInt8} (h : ¬ (bs.length < 4 ∨ 65536 < bs.length)) (h2 : (getFour (some (bs.drop (bs.length - 4)))).1 ≠ (crc (bs.take (bs.length - 4))).toNat) : readL bs = none := by unfold readL; rw [if_neg h, if_pos h2]
theorem readL_ok {bs : List UInt8} (h : ¬ (bs.length < 4 ∨ 65536 < bs.length)) (h2 : (getFour (some (bs.drop (bs.length - 4)))).1 = (crc (bs.take (bs.length - 4))).toNat) : readL bs = (if doneS (restR (headR (some (bs.take (bs.length - 4))))).2 && rightL (restR (headR (some (bs.take (bs.length - 4))))).1 then some (restR (headR (some (bs.take (bs.length - 4))))).1 else none) := by unfold readL; rw [if_neg h, if_neg (fun e => e h2)]
/-- what Read hands back -/
def RdOut (w w' : World) (e : Ending) (o : Option Lt) : Prop :=
  match o with
  | none => e = .returned (.tuple #[lt0.val p0, .int .i64 20]) ∧ Below w.heap.size w w'
  | some l => ∃ p, e = .returned (.tuple #[l.val p, .int .i64 0]) ∧ LtIn w' l p ∧ Below w.heap.size w w'
theorem res_zero {w W : World} (hb : Below w.heap.size w W) : RdOut w W (.returned (.tuple #[.agg (lt0.cells p0).toArray, .int .i64 20])) none := ⟨rfl, hb⟩

set_option maxRecDepth 100000 in
set_option maxHeartbeats 4000000 in
theorem read_len (A : Option Addr) (bs : List UInt8) (c : Nat) (w : World) (hbad : bs.length < 4 ∨ 65536 < bs.length) :
    Calls Try.prog 15 #[.slice A bs.length c] w fun e w' => RdOut w w' e (readL bs) := by
  rw [readL_len hbad]
  obtain ⟨W1, hW1⟩ : ∃ W, w.alloc (.cells #[Value.int .i64 0, Value.int .i64 0, Value.int .i64 0, Value.int .i64 0, Value.slice none 0 0, Value.slice none 0 0, Value.slice none 0 0, Value.int .i64 0, Value.int .i64 0, Value.int .u8 0, Value.int .u8 0, Value.int .u8 0, Value.int .u8 0, Value.int .u8 0, Value.int .u8 0, Value.int .u8 0, Value.int .u8 0, Value.int .u8 0, Value.int .u8 0, Value.int .u8 0, Value.int .u8 0, Value.int .u8 0, Value.int .u8 0, Value.int .u8 0, Value.int .u8 0, Value.int .u8 0, Value.int .u8 0, Value.int .u8 0, Value.int .u8 0, Value.int .u8 0, Value.int .u8 0, Value.int .u8 0, Value.int .u8 0, Value.int .u8 0, Value.int .u8 0, Value.int .u8 0, Value.int .u8 0, Value.int .u8 0, Value.int .u8 0, Value.int .u8 0, Value.int .u8 0, Value.slice none 0 0] 28) = W := ⟨_, rfl⟩
  obtain ⟨r1, b1, s1⟩ := new_row hW1
  rw [← lt0_cells] at r1
  obtain ⟨W2, hW2, HTH, HR2, HB2, _, _⟩ := let_write (q := p0) (m := lt0) r1 rfl rfl b1 b1.size (Nat.le_refl _)
  have HW2 := Lib.hid hW2
  have HIZ := Lib.hid (info_leta lt0 p0 rfl)
  have HOZ := Lib.hid (all_oneCell_toArray (lt0.cells_one p0))
  obtain ⟨g, hg⟩ : ∃ g, w.heap.size = g := ⟨_, rfl⟩
  rw [hg] at HTH HR2 HW2
  obtain ⟨n, hn⟩ : ∃ n, bs.length = n := ⟨_, rfl⟩
  rw [hn] at hbad
  rw [hn]
  have HB2' : Hid (Below w.heap.size w W2) := HB2
  clear r1 b1 s1 hW2 hn
  by_cases h4 : n < 4
  · go_enter Try.func15, Try.ntmps15
    go_wp2_with ((with_reducible (refine wpList_store_mid rfl _ _ _ rfl ?_ ?_ ?_ ?_ ?_ ?_ ?_ ?_ ?_)); (exact g); (exact 0); (exact (lt0.cells p0).toArray); (exact rfl); (exact rfl); (exact HTH.out); (exact HIZ.out); (exact HOZ.out); rw [HW2.out])
    refine bodyPost_ret (results_row_tmp rfl _ _ _ _ _ _ _ rfl HR2.out Try.underlying28 rfl HIZ.out) rfl ?_
    exact res_zero HB2'.out
  · have h6 : 65536 < n := by omega
    go_enter Try.func15, Try.ntmps15
    go_wp2_with ((with_reducible (refine wpList_store_mid rfl _ _ _ rfl ?_ ?_ ?_ ?_ ?_ ?_ ?_ ?_ ?_)); (exact g); (exact 0); (exact (lt0.cells p0).toArray); (exact rfl); (exact rfl); (exact HTH.out); (exact HIZ.out); (exact HOZ.out); rw [HW2.out])
    refine bodyPost_ret (results_row_tmp rfl _ _ _ _ _ _ _ rfl HR2.out Try.underlying28 rfl HIZ.out) rfl ?_
    exact res_zero HB2'.out

set_option maxRecDepth 100000 in
set_option maxHeartbeats 8000000 in
theorem read_sum (A : Option Addr) (bs : List UInt8) (c : Nat) (w : World) (hr : Rd w A (b8s bs)) (hc : bs.length ≤ c) (hc2 : c ≤ 9223372036854775807) (h4 : ¬ bs.length < 4) (h6 : ¬ 65536 < bs.length) (hsum : (getFour (some (bs.drop (bs.length - 4)))).1 ≠ (crc (bs.take (bs.length - 4))).toNat) :
    Calls Try.prog 15 #[.slice A bs.length c] w fun e w' => RdOut w w' e (readL bs) := by
  rw [readL_sum (by omega) hsum]
  obtain ⟨m, hm⟩ : ∃ m, bs.length = m + 4 := ⟨bs.length - 4, by omega⟩
  have e1 : bs.length - 4 = m := by omega
  rw [e1] at hsum
  obtain ⟨n, hn⟩ : ∃ n, bs.length = n := ⟨_, rfl⟩
  have HNM : Hid (n = m + 4) := Lib.hid (by omega)
  rw [hn]
  have HTK : Hid (bs.length - 4 = m) := Lib.hid e1
  obtain ⟨inn, hinn⟩ : ∃ l, bs.take m = l := ⟨_, rfl⟩
  obtain ⟨end_, hend⟩ : ∃ l, bs.drop m = l := ⟨_, rfl⟩
  rw [hinn, hend] at hsum
  have hil : inn.length = m := by rw [← hinn, List.length_take]; omega
  have hel : end_.length = 4 := by rw [← hend, List.length_drop]; omega
  have hr1 : Rd w A (b8s inn) := by
    have := hr.take m
    rwa [show (b8s bs).take m = b8s inn by rw [← hinn]; simp [b8s]] at this
  have hr2 : Rd w (if c = m then A else A.map (·.add m)) (b8s end_) := by
    have := hr.drop (k := m) (size := 1) (cap := c) (by rw [b8s_length]; omega)
    simpa [b8s, ← hend] using this
  obtain ⟨W1, hW1⟩ : ∃ W, w.alloc (.cells #[Value.int .i64 0, Value.int .i64 0, Value.int .i64 0, Value.int .i64 0, Value.slice none 0 0, Value.slice none 0 0, Value.slice none 0 0, Value.int .i64 0, Value.int .i64 0, Value.int .u8 0, Value.int .u8 0, Value.int .u8 0, Value.int .u8 0, Value.int .u8 0, Value.int .u8 0, Value.int .u8 0, Value.int .u8 0, Value.int .u8 0, Value.int .u8 0, Value.int .u8 0, Value.int .u8 0, Value.int .u8 0, Value.int .u8 0, Value.int .u8 0, Value.int .u8 0, Value.int .u8 0, Value.int .u8 0, Value.int .u8 0, Value.int .u8 0, Value.int .u8 0, Value.int .u8 0, Value.int .u8 0, Value.int .u8 0, Value.int .u8 0, Value.int .u8 0, Value.int .u8 0, Value.int .u8 0, Value.int .u8 0, Value.int .u8 0, Value.int .u8 0, Value.int .u8 0, Value.slice none 0 0] 28) = W := ⟨_, rfl⟩
  obtain ⟨q1, b1, s1⟩ := new_row hW1
  rw [← lt0_cells] at q1
  obtain ⟨g2, hg2⟩ : ∃ g, w.heap.size = g := ⟨_, rfl⟩
  rw [hg2] at q1
  have HQ1 := Lib.hid q1
  have HB1 := Lib.hid b1
  have HS1 : Hid (W1.heap.size = g2 + 1) := Lib.hid (by omega)
  have HG2 := Lib.hid hg2
  have HR1 := Lib.hid (hr1.below b1)
  have HR2 := Lib.hid (hr2.below b1)
  have HIL := Lib.hid hil
  have HEL := Lib.hid hel
  have HSUM := Lib.hid hsum
  have HINN := Lib.hid hinn
  have HEND := Lib.hid hend
  have hmc : n ≤ c := by omega
  have HM6 : Hid (m + 4 ≤ 65536) := Lib.hid (by omega)
  have hsub := fun w => bin_sub (P := Try.prog) (t := 3) (n : Int) 4 (m : Int) w (by omega) (by omega) (by omega)
  have hm4 : ¬ (n : Int) < 4 := by omega
  have hm7 : ¬ (65536 : Int) < (n : Int) := by omega
  have hmi : (m : Int) ≤ (c : Int) := by omega
  have hmj : (m : Int) ≤ (n : Int) := by omega
  clear hn e1 hinn hend hil hel hr1 hr2 hr q1 b1 s1 hsum hm h4 h6 hc
  go_enter Try.func15, Try.ntmps15
  go_wp2_with fail
  clear hg2 hW1
  refine wp_region_sched (fun w' => Below W1.heap.size W1 w') [(true, 0), (true, 1), (true, 2), (true, 3), (true, 4), (true, 5), (true, 6), (true, 7), (true, 8), (true, 9), (false, 10), (true, 11), (true, 12)] (by kernel_rfl) (by kernel_rfl) rfl (by kernel_rfl) (Below.refl _ _).drew ?_
  (first | (refine wpS_pass _ rfl (by rfl) ?_; simp only [Act.put, List.getElem_toArray, List.getElem_cons_zero, List.getElem_cons_succ, List.setIfInBounds_toArray, List.set_cons_zero, List.set_cons_succ]) | (refine wpS_take _ ?_ rfl (by rfl) ?_ ?_; rotate_left; (focus (intro w' hS'; (try dsimp only at hS'); (repeat (have hS1 := hS'.1; replace hS' := hS'.2)); go_simp; (try with_reducible rfl); done)); simp only [Act.put, List.getElem_toArray, List.getElem_cons_zero, List.getElem_cons_succ, List.setIfInBounds_toArray, List.set_cons_zero, List.set_cons_succ]))
  (first | (refine wpS_pass _ rfl (by rfl) ?_; simp only [Act.put, List.getElem_toArray, List.getElem_cons_zero, List.getElem_cons_succ, List.setIfInBounds_toArray, List.set_cons_zero, List.set_cons_succ]) | (refine wpS_take _ ?_ rfl (by rfl) ?_ ?_; rotate_left; (focus (intro w' hS'; (try dsimp only at hS'); (repeat (have hS1 := hS'.1; replace hS' := hS'.2)); go_simp; (try with_reducible rfl); done)); simp only [Act.put, List.getElem_toArray, List.getElem_cons_zero, List.getElem_cons_succ, List.setIfInBounds_toArray, List.set_cons_zero, List.set_cons_succ]))
  (first | (refine wpS_pass _ rfl (by rfl) ?_; simp only [Act.put, List.getElem_toArray, List.getElem_cons_zero, List.getElem_cons_succ, List.setIfInBounds_toArray, List.set_cons_zero, List.set_cons_succ]) | (refine wpS_take _ ?_ rfl (by rfl) ?_ ?_; rotate_left; (focus (intro w' hS'; (try dsimp only at hS'); (repeat (have hS1 := hS'.1; replace hS' := hS'.2)); go_simp; (try with_reducible rfl); done)); simp only [Act.put, List.getElem_toArray, List.getElem_cons_zero, List.getElem_cons_succ, List.setIfInBounds_toArray, List.set_cons_zero, List.set_cons_succ]))
  refine wpS_take _ _ rfl (by rfl) (fun w' hS' => exec_bin _ _ _ _ _ rfl _ _ _ rfl rfl rfl (hsub w')) ?_
  simp only [Act.put, List.getElem_toArray, List.getElem_cons_zero, List.getElem_cons_succ, List.setIfInBounds_toArray, List.set_cons_zero, List.set_cons_succ]
  (first | (refine wpS_pass _ rfl (by rfl) ?_; simp only [Act.put, List.getElem_toArray, List.getElem_cons_zero, List.getElem_cons_succ, List.setIfInBounds_toArray, List.set_cons_zero, List.set_cons_succ]) | (refine wpS_take _ ?_ rfl (by rfl) ?_ ?_; rotate_left; (focus (intro w' hS'; (try dsimp only at hS'); (repeat (have hS1 := hS'.1; replace hS' := hS'.2)); go_simp; (try with_reducible rfl); done)); simp only [Act.put, List.getElem_toArray, List.getElem_cons_zero, List.getElem_cons_succ, List.setIfInBounds_toArray, List.set_cons_zero, List.set_cons_succ]))
  (first | (refine wpS_pass _ rfl (by rfl) ?_; simp only [Act.put, List.getElem_toArray, List.getElem_cons_zero, List.getElem_cons_succ, List.setIfInBounds_toArray, List.set_cons_zero, List.set_cons_succ]) | (refine wpS_take _ ?_ rfl (by rfl) ?_ ?_; rotate_left; (focus (intro w' hS'; (try dsimp only at hS'); (repeat (have hS1 := hS'.1; replace hS' := hS'.2)); go_simp; (try with_reducible rfl); done)); simp only [Act.put, List.getElem_toArray, List.getElem_cons_zero, List.getElem_cons_succ, List.setIfInBounds_toArray, List.set_cons_zero, List.set_cons_succ]))
  (first | (refine wpS_pass _ rfl (by rfl) ?_; simp only [Act.put, List.getElem_toArray, List.getElem_cons_zero, List.getElem_cons_succ, List.setIfInBounds_toArray, List.set_cons_zero, List.set_cons_succ]) | (refine wpS_take _ ?_ rfl (by rfl) ?_ ?_; rotate_left; (focus (intro w' hS'; (try dsimp only at hS'); (repeat (have hS1 := hS'.1; replace hS' := hS'.2)); go_simp; (try with_reducible rfl); done)); simp only [Act.put, List.getElem_toArray, List.getElem_cons_zero, List.getElem_cons_succ, List.setIfInBounds_toArray, List.set_cons_zero, List.set_cons_succ]))
  (first | (refine wpS_pass _ rfl (by rfl) ?_; simp only [Act.put, List.getElem_toArray, List.getElem_cons_zero, List.getElem_cons_succ, List.setIfInBounds_toArray, List.set_cons_zero, List.set_cons_succ]) | (refine wpS_take _ ?_ rfl (by rfl) ?_ ?_; rotate_left; (focus (intro w' hS'; (try dsimp only at hS'); (repeat (have hS1 := hS'.1; replace hS' := hS'.2)); go_simp; (try with_reducible rfl); done)); simp only [Act.put, List.getElem_toArray, List.getElem_cons_zero, List.getElem_cons_succ, List.setIfInBounds_toArray, List.set_cons_zero, List.set_cons_succ]))
  refine wpS_take _ _ rfl (by rfl) (fun w' hS' => exec_bin _ _ _ _ _ rfl _ _ _ rfl rfl rfl (hsub w')) ?_
  simp only [Act.put, List.getElem_toArray, List.getElem_cons_zero, List.getElem_cons_succ, List.setIfInBounds_toArray, List.set_cons_zero, List.set_cons_succ]
  clear hsub
  (first | (refine wpS_pass _ rfl (by rfl) ?_; simp only [Act.put, List.getElem_toArray, List.getElem_cons_zero, List.getElem_cons_succ, List.setIfInBounds_toArray, List.set_cons_zero, List.set_cons_succ]) | (refine wpS_take _ ?_ rfl (by rfl) ?_ ?_; rotate_left; (focus (intro w' hS'; (try dsimp only at hS'); (repeat (have hS1 := hS'.1; replace hS' := hS'.2)); go_simp; (try with_reducible rfl); done)); simp only [Act.put, List.getElem_toArray, List.getElem_cons_zero, List.getElem_cons_succ, List.setIfInBounds_toArray, List.set_cons_zero, List.set_cons_succ]))
  refine wpS_do _ rfl (by rfl) (fun K hK => ?_)
  go_simp
  refine (read_any _ end_ (n - m) (c - m) W1.drew (by have := HNM.out; have := HEL.out; omega) HR2.out.drew (by rw [HEL.out]; omega)).mono ?_
  rintro e w2 ⟨r1, rfl, hge1, hb2, hM1⟩
  have HB2 : Hid (Below W1.heap.size W1 w2) := Lib.hid ((Below.refl _ _).drew.trans hb2)
  have HM1 := Lib.hid hM1
  have HGE1 : Hid (W1.heap.size ≤ r1) := Lib.hid hge1
  refine hK.out _ _ HB2.out (fun hS => ?_)
  clear hK hS hge1 hb2 hM1
  (repeat (first | (refine wpS_pass _ rfl (by rfl) ?_; simp only [Act.put, List.getElem_toArray, List.getElem_cons_zero, List.getElem_cons_succ, List.setIfInBounds_toArray, List.set_cons_zero, List.set_cons_succ]) | (refine wpS_take _ ?_ rfl (by rfl) ?_ ?_; rotate_left; (focus (intro w' hS'; (try dsimp only at hS'); (repeat (have hS1 := hS'.1; replace hS' := hS'.2)); go_simp; (try with_reducible rfl); done)); simp only [Act.put, List.getElem_toArray, List.getElem_cons_zero, List.getElem_cons_succ, List.setIfInBounds_toArray, List.set_cons_zero, List.set_cons_succ])))
  refine wpS_done ?_
  generalize (if c = m then A else Option.map (fun x => x.add m) A) = A2 at *
  go_wp2_with fail
  refine (rdfour_any r1 (some end_) w2 HM1.out).mono ?_
  rintro e w3 ⟨rfl, hm3, hg3⟩
  have HB3 : Hid (Below W1.heap.size W1 w3) := Lib.hid (bel_grown HB2.out HB2.out.size hg3 HGE1.out)
  clear hm3 hg3 HB2 HM1 HGE1
  have hsm := sum_any A inn c w3 (HR1.out.below HB3.out) (by have := HIL.out; have := HM6.out; unfold maxLen; omega)
  rw [HIL.out] at hsm
  have HSM := Lib.hid hsm
  clear hsm
  go_wp2_with fail
  refine HSM.out.mono ?_
  rintro e w4 ⟨rfl, rfl⟩
  clear HSM
  have hne : (((getFour (some end_)).1 : Int) != ((crc inn).toNat : Int)) = true := by rw [bne_iff_ne]; have := HSUM.out; omega
  obtain ⟨WE, hWE, HTE, HRE, HBE, _, _⟩ := let_write (q := p0) (m := lt0) (p := p0) (l := lt0) (g := g2) ((HB3.out.block g2 (by have := HS1.out; omega)).trans HQ1.out) rfl rfl (HB1.out.trans (HB3.out.mono (by have := HS1.out; have := HG2.out; omega))) (by have := HS1.out; have := HG2.out; have := HB3.out.size; omega) (Nat.le_of_eq HG2.out)
  have HWE := Lib.hid hWE
  have HIE := Lib.hid (info_leta lt0 p0 rfl)
  have HOE := Lib.hid (all_oneCell_toArray (lt0.cells_one p0))
  have HBE' : Hid (Below w.heap.size w WE) := HBE
  clear hWE
  go_wp2_with ((with_reducible (refine wpList_store_mid rfl _ _ _ rfl ?_ ?_ ?_ ?_ ?_ ?_ ?_ ?_ ?_)); (exact g2); (exact 0); (exact (lt0.cells p0).toArray); (exact rfl); (exact rfl); (exact HTE.out); (exact HIE.out); (exact HOE.out); rw [HWE.out])
  refine bodyPost_ret (results_row_tmp rfl _ _ _ _ _ _ _ rfl HRE.out Try.underlying28 rfl HIE.out) rfl ?_
  exact res_zero HBE'.out
end Go.Proofs.Ytfjfidhhmidflaa
