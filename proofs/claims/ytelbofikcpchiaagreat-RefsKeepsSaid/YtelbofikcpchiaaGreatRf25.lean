
/- Refs: the turns of RefsHead, and where they lead. -/

import Derived.Test.YtelbofikcpchiaaGreatQH

namespace Go.Proofs.YtelbofikcpchiaaGreat

set_option linter.unusedVariables false

set_option linter.unusedSimpArgs false

set_option linter.unusedSectionVars false

open Go.RowKit

/-- a turn's head alone -/
def tx0 (t : TxM) : TxM := ⟨[], t.head, t.at_⟩
def goodA (all : AL (List UInt8)) : Prop := ∀ p ∈ all, validB p.1 = true ∧ p.2 ≠ Z32 ∧ p.1.length ≤ 140737488355328
def hdT (t : TxM) (h : List UInt8) : List UInt8 := if t.head ≠ [] then t.head else if t.at_ ≠ Z32 then [] else h
def atT (t : TxM) (a : List UInt8) : List UInt8 := if t.head ≠ [] then Z32 else if t.at_ ≠ Z32 then t.at_ else a
theorem tx0_ok {t : TxM} (h : TxOk t) : TxOk (tx0 t) := ⟨h.al, by simp [tx0], h.hd, by simp [tx0]⟩
theorem check0 (r : RfM) (t : TxM) : checkR r (tx0 t) = 0 ∨ checkR r (tx0 t) = 100 := by
  unfold checkR
  have e : (tx0 t).us = [] := rfl
  rw [e, if_neg (by simp), if_neg (by simp [chkUs])]
  split
  · exact .inr rfl
  · exact .inl rfl
theorem do0_ok {r : RfM} {t : TxM} (h : checkR r (tx0 t) = 0) : (doP r (tx0 t)).1.all = r.all ∧ (doP r (tx0 t)).1.log = r.log ∧ (doP r (tx0 t)).1.head = hdT t r.head ∧ (doP r (tx0 t)).1.at_ = atT t r.at_ ∧ (doP r (tx0 t)).2 = 0 := by
  unfold doP
  rw [if_neg (by rw [h]; simp)]
  split
  · rename_i he
    unfold emptyT at he
    simp only [Bool.and_eq_true, decide_eq_true_eq] at he
    have e1 : t.head = [] := he.1.2
    have e2 : t.at_ = Z32 := he.2
    simp [hdT, atT, e1, e2]
  · refine ⟨rfl, ?_, rfl, rfl, rfl⟩
    show r.log ++ (tx0 t).us = r.log
    simp [tx0]
theorem do0_bad {r : RfM} {t : TxM} (h : checkR r (tx0 t) = 100) : doP r (tx0 t) = (r, 100) := by
  unfold doP
  rw [if_pos (by rw [h]; simp), h]
theorem byt_le (r : RfM) (bs : List UInt8) (t : TxM) : (bytP r bs t).length ≤ bs.length + (recordB t).length := by
  unfold bytP
  split
  · omega
  · split
    · omega
    · rw [List.length_append]; omega
theorem rec0_le {t : TxM} (h : TxOk t) : (recordB (tx0 t)).length ≤ 76 + t.head.length ∧ (payloadB (tx0 t)).length ≤ 62 + t.head.length := by
  have h1 := record_le (tx0_ok h)
  have h2 := payload_le (tx0_ok h)
  have e1 : (tx0 t).head = t.head := rfl
  have e2 : ((tx0 t).us.map fun u => u.name.length + 74).sum = 0 := rfl
  rw [e1, e2] at h1 h2
  omega
theorem isPrefix_len {w s : List UInt8} (h : w.isPrefixOf s = true) : w.length ≤ s.length := by
  have := List.isPrefixOf_iff_prefix.1 h
  exact this.length_le
theorem behind_len {s w r : List UInt8} (h : behind s w = some r) : w.length ≤ s.length := by
  unfold behind at h
  split at h
  · rename_i hp; exact isPrefix_len hp
  · cases h
theorem valid_len {s : List UInt8} (h : validB s = true) : 5 ≤ s.length := by
  unfold validB at h
  cases h1 : behind s tags with
  | some r => exact behind_len h1
  | none =>
    rw [h1] at h
    simp only at h
    cases h2 : behind s remotes with
    | some r =>
      have := behind_len h2
      have e : remotes.length = 8 := rfl
      omega
    | none =>
      rw [h2] at h
      simp only at h
      unfold branchB at h
      cases h3 : behind s heads with
      | some r =>
        have := behind_len h3
        have e : heads.length = 6 := rfl
        omega
      | none => rw [h3] at h; simp at h
theorem check1 {r : RfM} {u : UpM} (h : checkR r (tx1 u) = 0) : validB u.name = true := by
  have h2 : chkU r.all [] u = 0 := by
    by_cases h2 : chkU r.all [] u = 0
    · exact h2
    · exfalso
      have e1 : chkUs r.all [] (tx1 u).us = chkU r.all [] u := by
        show (if chkU r.all [] u = 0 then chkUs r.all ([] ++ [u.name]) [] else chkU r.all [] u) = _
        rw [if_neg h2]
      unfold checkR at h
      rw [if_neg (by simp [tx1]), e1, if_pos h2] at h
      exact h2 h
  unfold chkU at h2
  cases hv : validB u.name with
  | true => rfl
  | false => rw [if_pos hv] at h2; cases h2
theorem byt1_le {r : RfM} {bs : List UInt8} {u : UpM} (hu : upOk u) : (bytP r bs (tx1 u)).length ≤ bs.length + 31 * (1 + u.name.length) := by
  by_cases h : checkR r (tx1 u) = 0
  · have h1 := byt_le r bs (tx1 u)
    have h2 := record1_le hu
    have h3 := valid_len (check1 h)
    omega
  · have e : bytP r bs (tx1 u) = bs := by
      unfold bytP
      rw [if_pos h]
    rw [e]
    omega
theorem do1_head (r : RfM) {u : UpM} (hu : upOk u) : (doP r (tx1 u)).1.head = r.head ∧ (doP r (tx1 u)).1.at_ = r.at_ ∧ (doP r (tx1 u)).1.all.length ≤ r.all.length + 1 ∧ (doP r (tx1 u)).1.log.length ≤ r.log.length + 1 ∧ (goodA r.all → goodA (doP r (tx1 u)).1.all) := by
  unfold doP
  split
  · exact ⟨rfl, rfl, by simp, by simp, id⟩
  · rename_i hc
    split
    · exact ⟨rfl, rfl, by simp, by simp, id⟩
    · refine ⟨?_, ?_, ?_, by simp [makeR, tx1], fun hg => ?_⟩
      · show (if (tx1 u).head ≠ [] then (tx1 u).head else if (tx1 u).at_ ≠ Z32 then [] else r.head) = r.head
        simp [tx1]
      · show (if (tx1 u).head ≠ [] then Z32 else if (tx1 u).at_ ≠ Z32 then (tx1 u).at_ else r.at_) = r.at_
        simp [tx1]
      · show (updA r.all u).length ≤ _
        have h1 := putA_length r.all u.name u.new
        unfold updA
        split
        · have := delA_length (putA r.all u.name u.new) u.name
          omega
        · exact h1
      · have hv := check1 (Classical.not_not.1 hc)
        show goodA (updA r.all u)
        unfold updA
        split
        · intro p hp
          obtain ⟨h1, h2⟩ := delA_mem.1 hp
          rcases insA_mem.1 h1 with rfl | h1
          · exact absurd rfl h2
          · exact hg p (delA_mem.1 h1).1
        · intro p hp
          rcases insA_mem.1 hp with rfl | h1
          · exact ⟨hv, by assumption, hu.2.2⟩
          · exact hg p (delA_mem.1 h1).1
theorem getA_good {all : AL (List UInt8)} (hr : risesA all) (hg : goodA all) {p : List UInt8 × List UInt8} (hp : p ∈ all) : getA all p.1 ≠ Z32 := by
  have : ∃ q ∈ all, findA all p.1 = some q.2 := by
    unfold findA
    cases hf : all.find? (fun q => q.1 == p.1) with
    | none =>
      have := List.find?_eq_none.1 hf p hp
      simp at this
    | some q => exact ⟨q, List.mem_of_find?_eq_some hf, rfl⟩
  obtain ⟨q, hq, h⟩ := this
  unfold getA
  rw [h]
  exact (hg q hq).2.1

/-- the refs of RefsHead, turn by turn: ps are rows of the law's own, which no turn changes -/
structure HdS (w0 : World) (g gr : Nat) (ps : List (Nat × Obj)) (B z : Nat) (w : World) (r : RfM) : Prop where
  ex : ∃ bs L d q, RefsAt w0.heap.size w g gr r bs 1048576 L d q ∧ bs.length ≤ B ∧ L ≤ 2000 * z ∧ ∀ p ∈ ps, ¬ footA g gr d q p.1
  rows : ∀ p ∈ ps, w.heap[p.1]? = some p.2
  bel : Below w0.heap.size w0 w
  good : goodA r.all
  al : r.all.length ≤ z
  ll : r.log.length ≤ z
section

variable {w0 w w1 w' : World} {g gr B z : Nat} {ps : List (Nat × Obj)} {r : RfM}

theorem HdS.lt (h : HdS w0 g gr ps B z w r) {p : Nat × Obj} (hp : p ∈ ps) : p.1 < w.heap.size := (Array.getElem?_eq_some_iff.1 (h.rows p hp)).1
theorem HdS.below (h : HdS w0 g gr ps B z w r) (hb : Below w.heap.size w w') : HdS w0 g gr ps B z w' r := by
  obtain ⟨bs, L, d, q, h1, h2, h3, h4⟩ := h.ex
  exact ⟨⟨bs, L, d, q, h1.below hb, h2, h3, h4⟩, fun p hp => (hb.block _ (h.lt hp)).trans (h.rows p hp), h.bel.trans (hb.mono h.bel.size), h.good, h.al, h.ll⟩
theorem HdS.mono (h : HdS w0 g gr ps B z w r) {B' z' : Nat} (hB : B ≤ B') (hz : z ≤ z') : HdS w0 g gr ps B' z' w r := by
  obtain ⟨bs, L, d, q, h1, h2, h3, h4⟩ := h.ex
  exact ⟨⟨bs, L, d, q, h1, by omega, by omega, h4⟩, h.rows, h.bel, h.good, Nat.le_trans h.al hz, Nat.le_trans h.ll hz⟩
theorem HdS.sub (h : HdS w0 g gr ps B z w r) {ps' : List (Nat × Obj)} (hs : ∀ p ∈ ps', p ∈ ps) : HdS w0 g gr ps' B z w r := by
  obtain ⟨bs, L, d, q, h1, h2, h3, h4⟩ := h.ex
  exact ⟨⟨bs, L, d, q, h1, h2, h3, fun p hp => h4 p (hs p hp)⟩, fun p hp => h.rows p (hs p hp), h.bel, h.good, h.al, h.ll⟩
theorem HdS.ok (h : HdS w0 g gr ps B z w r) : RfOk r := by
  obtain ⟨_, _, _, _, h1, _⟩ := h.ex
  exact h1.ok
/-- a new row of the law's own -/
theorem HdS.add (h : HdS w0 g gr ps B z w r) (hb : Below w.heap.size w w') {b : Nat} {o : Obj} (hbk : w.heap.size ≤ b) (ho : w'.heap[b]? = some o) : HdS w0 g gr ((b, o) :: ps) B z w' r := by
  have h' := h.below hb
  obtain ⟨bs, L, d, q, h1, h2, h3, h4⟩ := h.ex
  refine ⟨⟨bs, L, d, q, h1.below hb, h2, h3, fun p hp => ?_⟩, fun p hp => ?_, h'.bel, h.good, h.al, h.ll⟩
  · rcases List.mem_cons.1 hp with rfl | hp
    · intro hf
      have := h1.foot_lt hf
      dsimp only at this
      omega
    · exact h4 p hp
  · rcases List.mem_cons.1 hp with rfl | hp
    · exact ho
    · exact h'.rows p hp
/-- a row of the law's own is written anew -/
theorem HdS.put {b : Nat} {o o' : Obj} (h : HdS w0 g gr ((b, o) :: ps) B z w r) (hg : w.grownBy w' (some b)) (hr : w'.heap[b]? = some o') (hp : w0.heap.size ≤ b) (hps : ∀ p ∈ ps, p.1 ≠ b) : HdS w0 g gr ((b, o') :: ps) B z w' r := by
  obtain ⟨bs, L, d, q, h1, h2, h3, h4⟩ := h.ex
  have hf : Frm (· = b) w w' := Frm.of_grown hg (fun k hk => .inl (by cases hk; rfl))
  have h5 : ¬ footA g gr d q b := h4 (b, o) List.mem_cons_self
  refine ⟨⟨bs, L, d, q, ⟨⟨h1.dr.disk.frm hf ?_, h1.dr.refs.frm hf ?_, h1.dr.apart⟩, h1.fit, h1.ok, h1.st⟩, h2, h3, fun p hp => ?_⟩, fun p hp => ?_, bel_grown h.bel h.bel.size hg hp, h.good, h.al, h.ll⟩
  · rintro k hb rfl
    exact h5 (.inl hb)
  · rintro k hb rfl
    exact h5 (.inr hb)
  · rcases List.mem_cons.1 hp with rfl | hp
    · exact h5
    · exact h4 p (List.mem_cons_of_mem _ hp)
  · rcases List.mem_cons.1 hp with rfl | hp
    · exact hr
    · exact (hf.block _ (h.lt (List.mem_cons_of_mem _ hp)) (hps p hp)).trans (h.rows p (List.mem_cons_of_mem _ hp))
/-- HEAD's turn -/
theorem HdS.do0 (h : HdS w0 g gr ps B z w r) {t : TxM} (ht : TxOk t) (hl : t.head.length ≤ 1000) (hB : B ≤ 1000000) (hz : z ≤ 1000000) :
    Calls Tryz.prog 10 #[.pointer (some ⟨gr, 0, none⟩), .agg (txC none 0 0 (tx0 t)).toArray] w fun e w' => e = .returned (.int .i64 (checkR r (tx0 t))) ∧ ∃ r', HdS w0 g gr ps (B + 76 + t.head.length) (z + 1) w' r' ∧
      ((checkR r (tx0 t) = 0 ∧ r'.head = hdT t r.head ∧ r'.at_ = atT t r.at_) ∨ (checkR r (tx0 t) = 100 ∧ r'.head = r.head ∧ r'.at_ = r.at_)) := by
  obtain ⟨bs, L, d, q, h1, h2, h3, h4⟩ := h.ex
  have hr := rec0_le ht
  have hby := byt_le r bs (tx0 t)
  refine (h1.turn (by omega) none 0 0 (tx0 t) rfl (tx0_ok ht) Rd.nil (fun _ a ha => by cases ha) (by omega) ⟨by have := h.al; omega, by have := h.ll; omega⟩ (by omega)).mono ?_
  rintro e w' ⟨rfl, d', q', h5, h6, h7⟩
  have h9 : ∀ p ∈ ps, ¬ footA g gr d' q' p.1 := fun p hp => (h7 p.1 (h.lt hp) (h4 p hp)).2
  have hrow : ∀ p ∈ ps, w'.heap[p.1]? = some p.2 := fun p hp => (h7 p.1 (h.lt hp) (h4 p hp)).1.trans (h.rows p hp)
  have hbel : Below w0.heap.size w0 w' := h.bel.trans h6
  rcases check0 r t with hc | hc
  · obtain ⟨k1, k2, k3, k4, k5⟩ := do0_ok hc
    refine ⟨by rw [k5, hc], (doP r (tx0 t)).1, ⟨⟨_, _, d', q', h5, by omega, by omega, h9⟩, hrow, hbel, by rw [k1]; exact h.good, by rw [k1]; have := h.al; omega, by rw [k2]; have := h.ll; omega⟩, .inl ⟨hc, k3, k4⟩⟩
  · have k := do0_bad hc
    refine ⟨by rw [k, hc], (doP r (tx0 t)).1, ⟨⟨_, _, d', q', h5, by omega, by omega, h9⟩, hrow, hbel, by rw [k]; exact h.good, by rw [k]; have := h.al; show r.all.length ≤ _; omega, by rw [k]; have := h.ll; show r.log.length ≤ _; omega⟩, .inr ⟨hc, by rw [k], by rw [k]⟩⟩
/-- a turn of one update, which lies in a new row -/
theorem HdS.do1 (h : HdS w0 g gr ps B z w1 r) (hb : Below w1.heap.size w1 w) {b : Nat} (hbk : w1.heap.size ≤ b) {u : UpM} (hu : upOk u) (hn : u.name.length ≤ 1000) (hrd : Rd w (some ⟨b, 0, none⟩) (upsC [u])) (hB : B ≤ 1000000) (hz : z ≤ 1000000) :
    Calls Tryz.prog 10 #[.pointer (some ⟨gr, 0, none⟩), .agg (txC (some ⟨b, 0, none⟩) 1 1 (tx1 u)).toArray] w fun e w' => ∃ v r', e = .returned (.int .i64 v) ∧ HdS w0 g gr ps (B + 31 * (1 + u.name.length)) (z + 1) w' r' ∧ r'.head = r.head ∧ r'.at_ = r.at_ := by
  obtain ⟨bs, L, d, q, h1, h2, h3, h4⟩ := h.ex
  have hr := record1_le hu
  have hp := payload_le (tx1_ok hu)
  simp only [tx1, List.map_cons, List.map_nil, List.sum_cons, List.sum_nil, List.length_nil] at hp
  have hby := byt1_le (r := r) (bs := bs) hu
  refine ((h1.below hb).turn (by omega) _ 1 1 (tx1 u) rfl (tx1_ok hu) hrd (fun _ a ha hf => ?_) (by show (payloadB (tx1 u)).length ≤ _; unfold tx1; omega) ⟨by have := h.al; omega, by have := h.ll; omega⟩ (by omega)).mono ?_
  · cases ha
    have := h1.foot_lt hf
    dsimp only at this
    omega
  · rintro e w' ⟨rfl, d', q', h5, h6, h7⟩
    have hs := hb.size
    have h9 : ∀ p ∈ ps, ¬ footA g gr d' q' p.1 := fun p hp => (h7 p.1 (by have := h.lt hp; omega) (h4 p hp)).2
    have hrow : ∀ p ∈ ps, w'.heap[p.1]? = some p.2 := fun p hp => ((h7 p.1 (by have := h.lt hp; omega) (h4 p hp)).1.trans (hb.block _ (h.lt hp))).trans (h.rows p hp)
    obtain ⟨k1, k2, k3, k4, k5⟩ := do1_head r hu
    have hbel : Below w0.heap.size w0 w' := (h.bel.trans (hb.mono h.bel.size)).trans h6
    exact ⟨_, _, rfl, ⟨⟨_, _, d', q', h5, by omega, by omega, h9⟩, hrow, hbel, k5 h.good, by have := h.al; omega, by have := h.ll; omega⟩, k1, k2⟩
theorem HdS.rf (h : HdS w0 g gr ps B z w r) : ∃ q, RfIn w0.heap.size w gr g r q := by
  obtain ⟨_, _, _, q, h1, _⟩ := h.ex
  exact ⟨q, h1.dr.refs⟩
end

end Go.Proofs.YtelbofikcpchiaaGreat
