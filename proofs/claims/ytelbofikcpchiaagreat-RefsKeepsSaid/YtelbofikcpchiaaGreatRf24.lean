
/- Refs, plain: the whole turn of RefsWhole; turns of RefsHead. -/

import Derived.Test.YtelbofikcpchiaaGreatQH

namespace Go.Proofs.YtelbofikcpchiaaGreat

set_option linter.unusedVariables false

set_option linter.unusedSimpArgs false

/-! ### RefsWhole -/

def tagT (i : Nat) : List UInt8 := [116, 97, 103, 115, 47, 116, UInt8.ofNat (97 + i)]
def idT (i : Nat) : List UInt8 := 1 :: UInt8.ofNat i :: List.replicate 30 0
def upT (i : Nat) : UpM := ⟨tagT i, Z32, idT i⟩
def upQ (i : Nat) : UpM := ⟨tagT i, idT i, Z32⟩
def upsT (n : Nat) : List UpM := (List.range n).map upT
def upsQ (n : Nat) : List UpM := (List.range n).map upQ
def I99 : List UInt8 := 9 :: 9 :: List.replicate 30 0
def txT (n : Nat) : TxM := ⟨upsT n, [], Z32⟩
def txQ (n : Nat) (id : List UInt8) : TxM := ⟨upsQ n, [], id⟩
def txW (n k : Nat) (s : List UInt8) : TxM := ⟨(upsT n).set k ⟨s, I99, idT k⟩, [], Z32⟩
theorem wholeP : ∀ n < 21, checkR rf0 (txT n) = 0 ∧ (makeR rf0 (txT n)).all.length = n ∧ (makeR rf0 (txT n)).log.length = n ∧ chkUs (makeR rf0 (txT n)).all [] (upsQ n) = 0 ∧ (upsQ n).foldl updA (makeR rf0 (txT n)).all = [] ∧ (makeR rf0 (txT n)).head = mainB := by decide +kernel
theorem upsT_length (n : Nat) : (upsT n).length = n := by simp [upsT]
theorem upsQ_length (n : Nat) : (upsQ n).length = n := by simp [upsQ]
theorem chkUs_bad {all : AL (List UInt8)} {us : List UpM} {u : UpM} (hu : u ∈ us) (hb : getA all u.name ≠ u.old) : ∀ met, chkUs all met us ≠ 0 := by
  induction us with
  | nil => cases hu
  | cons v r ih =>
    intro met
    simp only [chkUs]
    rcases List.mem_cons.1 hu with rfl | hu
    · have h1 : chkU all met u ≠ 0 := by
        unfold chkU
        split
        · decide
        · split
          · decide
          · first | decide | (rw [if_pos hb]; decide)
      rw [if_neg h1]
      exact h1
    · split
      · exact ih hu _
      · assumption
theorem txW_bad {n k : Nat} (hk : k < n) (s : List UInt8) : checkR rf0 (txW n k s) ≠ 0 := by
  have h1 : chkUs rf0.all [] (txW n k s).us ≠ 0 := chkUs_bad (u := ⟨s, I99, idT k⟩) (List.mem_iff_getElem.2 ⟨k, by simp [txW, upsT_length, hk], by simp [txW]⟩) (by show Z32 ≠ I99; decide) []
  unfold checkR
  split
  · decide
  · first | exact h1 | (rw [if_pos h1]; exact h1)
theorem upT_ok (i : Nat) : upOk (upT i) := ⟨rfl, rfl, by simp [upT, tagT]⟩
theorem upQ_ok (i : Nat) : upOk (upQ i) := ⟨rfl, rfl, by simp [upQ, tagT]⟩
theorem txT_ok {n : Nat} (hn : n ≤ 20) : TxOk (txT n) where
  al := rfl
  us := by
    intro u hu
    obtain ⟨i, _, rfl⟩ := List.mem_map.1 hu
    exact upT_ok i
  hd := by simp [txT]
  ul := by simp [txT, upsT_length]; omega
theorem txQ_ok {n : Nat} {id : List UInt8} (hn : n ≤ 20) (hid : id.length = 32) : TxOk (txQ n id) where
  al := hid
  us := by
    intro u hu
    obtain ⟨i, _, rfl⟩ := List.mem_map.1 hu
    exact upQ_ok i
  hd := by simp [txQ]
  ul := by simp [txQ, upsQ_length]; omega
theorem txW_ok {n k : Nat} {s : List UInt8} (hn : n ≤ 20) (hs : s.length ≤ 140737488355328) : TxOk (txW n k s) where
  al := rfl
  us := by
    intro u hu
    rcases List.mem_or_eq_of_mem_set hu with h | rfl
    · obtain ⟨i, _, rfl⟩ := List.mem_map.1 h
      exact upT_ok i
    · exact ⟨rfl, rfl, hs⟩
  hd := by simp [txW]
  ul := by simp [txW, upsT_length]; omega
theorem sum_const {α : Type} (f : α → Nat) (c : Nat) : ∀ l : List α, (∀ x ∈ l, f x = c) → (l.map f).sum = l.length * c := by
  intro l
  induction l with
  | nil => intro _; simp
  | cons x r ih =>
    intro h
    rw [List.map_cons, List.sum_cons, ih (fun y hy => h y (List.mem_cons_of_mem _ hy)), h x List.mem_cons_self, List.length_cons, Nat.add_mul]
    omega
theorem recT {n : Nat} (hn : n ≤ 20) : (recordB (txT n)).length ≤ 2000 ∧ (payloadB (txT n)).length ≤ 2000 := by
  have h1 := record_le (txT_ok hn)
  have h2 := payload_le (txT_ok hn)
  have h3 : ((txT n).us.map fun u => u.name.length + 74).sum = n * 81 := by
    rw [sum_const _ 81 _ (fun u hu => by obtain ⟨i, _, rfl⟩ := List.mem_map.1 hu; rfl)]
    simp [txT, upsT_length]
  have h4 : (txT n).head.length = 0 := rfl
  rw [h3, h4] at h1 h2
  omega
theorem recQ {n : Nat} {id : List UInt8} (hn : n ≤ 20) (hid : id.length = 32) : (recordB (txQ n id)).length ≤ 2000 ∧ (payloadB (txQ n id)).length ≤ 2000 := by
  have h1 := record_le (txQ_ok hn hid)
  have h2 := payload_le (txQ_ok hn hid)
  have h3 : ((txQ n id).us.map fun u => u.name.length + 74).sum = n * 81 := by
    rw [sum_const _ 81 _ (fun u hu => by obtain ⟨i, _, rfl⟩ := List.mem_map.1 hu; rfl)]
    simp [txQ, upsQ_length]
  have h4 : (txQ n id).head.length = 0 := rfl
  rw [h3, h4] at h1 h2
  omega
theorem doT {n : Nat} (h0 : 0 < n) (hn : n ≤ 20) : doP rf0 (txT n) = (makeR rf0 (txT n), 0) := by
  have h1 := (wholeP n (by omega)).1
  unfold doP
  rw [if_neg (by rw [h1]; simp)]
  have h2 : emptyT (txT n) = false := by
    unfold emptyT
    have : decide ((txT n).us = []) = false := by
      rw [decide_eq_false_iff_not]
      intro h
      have := congrArg List.length h
      simp [txT, upsT_length] at this
      omega
    rw [this]
    rfl
  rw [if_neg (by rw [h2]; simp)]
theorem doQ {n : Nat} {id : List UInt8} (h0 : 0 < n) (hn : n ≤ 20) : ∃ r, doP (makeR rf0 (txT n)) (txQ n id) = (r, 0) ∧ r.all = [] ∧ r.head = (if id = Z32 then mainB else []) ∧ (id ≠ Z32 → r.at_ = id) := by
  obtain ⟨_, _, _, h4, h5, h6⟩ := wholeP n (by omega)
  have h1 : checkR (makeR rf0 (txT n)) (txQ n id) = 0 := by
    unfold checkR
    have e1 : (txQ n id).us = upsQ n := rfl
    have e2 : (txQ n id).head = [] := rfl
    rw [e1, e2, upsQ_length, h4, if_neg (by omega), if_neg (by simp), if_neg (by simp)]
  have h2 : emptyT (txQ n id) = false := by
    unfold emptyT
    have : decide ((txQ n id).us = []) = false := by
      rw [decide_eq_false_iff_not]
      intro h
      have := congrArg List.length h
      simp [txQ, upsQ_length] at this
      omega
    rw [this]
    rfl
  refine ⟨makeR (makeR rf0 (txT n)) (txQ n id), ?_, h5, ?_, fun hne => ?_⟩
  · unfold doP
    rw [if_neg (by rw [h1]; simp), if_neg (by rw [h2]; simp)]
  · show (if (txQ n id).head ≠ [] then (txQ n id).head else if (txQ n id).at_ ≠ Z32 then [] else (makeR rf0 (txT n)).head) = _
    rw [if_neg (by show ¬ ([] : List UInt8) ≠ []; simp), h6]
    show (if id ≠ Z32 then [] else mainB) = _
    by_cases h : id = Z32
    · rw [if_neg (by simp [h]), if_pos h]
    · rw [if_pos h, if_neg h]
  · show (if (txQ n id).head ≠ [] then Z32 else if (txQ n id).at_ ≠ Z32 then (txQ n id).at_ else (makeR rf0 (txT n)).at_) = id
    rw [if_neg (by show ¬ ([] : List UInt8) ≠ []; simp), if_pos (show (txQ n id).at_ ≠ Z32 from hne)]
    rfl
end Go.Proofs.YtelbofikcpchiaaGreat
