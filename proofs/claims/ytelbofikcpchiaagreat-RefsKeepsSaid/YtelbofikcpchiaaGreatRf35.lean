
/- Refs, plain: what Open finds in the file of RefsKeeps. -/

import Derived.Test.YtelbofikcpchiaaGreatRf34

namespace Go.Proofs.YtelbofikcpchiaaGreat

set_option linter.unusedVariables false

set_option linter.unusedSimpArgs false

set_option maxRecDepth 100000

/-- refs of which heads/main alone is known -/
structure KR (r : RfM) (prev : List UInt8) (n : Nat) : Prop where
  get : getA r.all mainB = prev
  log : r.log.length = n
  al : r.all.length ≤ n
  st : r.stuck = false
  ok : RfOk r
theorem KR.zero : KR rf0 Z32 0 := ⟨rfl, rfl, Nat.le_refl _, rfl, rf0_ok0⟩
theorem kT_ok {old new : List UInt8} (ho : old.length = 32) (hn : new.length = 32) : TxOk (kT old new) := tx1_ok ⟨ho, hn, by show mainB.length ≤ _; decide⟩
theorem main_valid : validB mainB = true := by decide +kernel
theorem KR.check {r : RfM} {prev new : List UInt8} {n : Nat} (h : KR r prev n) : checkR r (kT prev new) = 0 := by
  unfold checkR
  have e1 : (kT prev new).us = [⟨mainB, prev, new⟩] := rfl
  have e2 : (kT prev new).head = [] := rfl
  rw [e1, e2, if_neg (by simp)]
  have e3 : chkUs r.all [] [⟨mainB, prev, new⟩] = 0 := by
    have e4 : chkU r.all [] ⟨mainB, prev, new⟩ = 0 := by
      unfold chkU
      rw [if_neg (by rw [main_valid]; decide), if_neg (by simp), if_neg (by simp [h.get])]
    show (if chkU r.all [] ⟨mainB, prev, new⟩ = 0 then chkUs r.all ([] ++ [mainB]) [] else chkU r.all [] ⟨mainB, prev, new⟩) = 0
    rw [if_pos e4]
    rfl
  rw [e3, if_neg (by simp), if_neg (by simp)]
theorem KR.make {r : RfM} {prev new : List UInt8} {n : Nat} (h : KR r prev n) (ho : prev.length = 32) (hn : new.length = 32) : KR (makeR r (kT prev new)) new (n + 1) := by
  refine ⟨?_, ?_, ?_, h.st, makeR_ok h.ok (kT_ok ho hn)⟩
  · show getA (updA r.all ⟨mainB, prev, new⟩) mainB = new
    unfold updA getA
    by_cases hz : new = Z32
    · rw [if_pos hz, findA_del, if_pos rfl, hz]
      rfl
    · rw [if_neg hz, findA_put, if_pos rfl]
      rfl
  · show (r.log ++ (kT prev new).us).length = n + 1
    rw [List.length_append, h.log]
    rfl
  · have h1 := makeR_all r (kT prev new)
    have h2 : (kT prev new).us.length = 1 := rfl
    have := h.al
    omega
/-- the records of some turns, one behind the other -/
def recsK : List UInt8 → List (List UInt8) → List UInt8
  | _, [] => []
  | p, id :: ids => recordB (kT p id) ++ recsK id ids
def lastK : List UInt8 → List (List UInt8) → List UInt8
  | p, [] => p
  | _, id :: ids => lastK id ids
theorem lastK_len : ∀ (ids : List (List UInt8)) (p : List UInt8), p.length = 32 → (∀ i ∈ ids, i.length = 32) → (lastK p ids).length = 32
  | [], p, hp, _ => hp
  | id :: ids, p, _, h => lastK_len ids id (h id List.mem_cons_self) (fun i hi => h i (List.mem_cons_of_mem _ hi))
theorem recsK_len : ∀ (ids : List (List UInt8)) (p : List UInt8), p.length = 32 → (∀ i ∈ ids, i.length = 32) → (recsK p ids).length = 114 * ids.length
  | [], _, _, _ => rfl
  | id :: ids, p, hp, h => by
    have h1 := h id List.mem_cons_self
    simp only [recsK, List.length_append, rec_len hp h1, recsK_len ids id h1 (fun i hi => h i (List.mem_cons_of_mem _ hi)), List.length_cons]
    omega
theorem recsK_app : ∀ (ids : List (List UInt8)) (p x : List UInt8), recsK p (ids ++ [x]) = recsK p ids ++ recordB (kT (lastK p ids) x)
  | [], p, x => by simp [recsK, lastK]
  | id :: ids, p, x => by simp only [List.cons_append, recsK, lastK, recsK_app ids id x, List.append_assoc]
theorem lastK_app : ∀ (ids : List (List UInt8)) (p x : List UInt8), lastK p (ids ++ [x]) = x
  | [], _, _ => rfl
  | id :: ids, _, x => by simp only [List.cons_append, lastK, lastK_app ids id x]
/-- what Open finds: whole records, then one that is cut (or none) -/
theorem open_recs : ∀ (ids : List (List UInt8)) (p pre cut : List UInt8) (r : RfM) (n f : Nat), KR r p n → p.length = 32 → (∀ i ∈ ids, i.length = 32) → (splitP cut).2.2 = false → ids.length < f →
    ∃ R, openP f r (pre ++ (recsK p ids ++ cut)) pre.length = (R, pre.length + (recsK p ids).length) ∧ KR R (lastK p ids) (n + ids.length)
  | [], p, pre, cut, r, n, f + 1, hk, hp, _, hc, _ => by
    refine ⟨r, ?_, hk⟩
    simp only [openP, recsK, List.nil_append, List.drop_left, List.length_nil, Nat.add_zero]
    rw [if_pos (.inl hc)]
  | id :: ids, p, pre, cut, r, n, f + 1, hk, hp, h, hc, hf => by
    have h1 := h id List.mem_cons_self
    have hm := hk.make (new := id) hp h1
    obtain ⟨R, e, hR⟩ := open_recs ids id (pre ++ recordB (kT p id)) cut (makeR r (kT p id)) (n + 1) f hm h1 (fun i hi => h i (List.mem_cons_of_mem _ hi)) hc (by simp only [List.length_cons] at hf; omega)
    refine ⟨R, ?_, ?_⟩
    · simp only [openP, recsK, List.drop_left, List.append_assoc, split_kT hp h1]
      rw [if_neg (by rw [hk.check]; simp)]
      rw [List.length_append, rec_len hp h1, List.append_assoc] at e
      rw [e, List.length_append, rec_len hp h1]
      simp only [Prod.mk.injEq, true_and]
      omega
    · have e1 : n + (id :: ids).length = n + 1 + ids.length := by simp only [List.length_cons]; omega
      rw [e1]
      exact hR
/-! ### the disk of RefsKeeps -/

/-- bytes, of them safe ones, steps till the power goes, gone or not -/
def kD (bs : List UInt8) (sf fuse : Nat) (dn : Bool) : DM := ⟨[⟨bs, sf⟩], [(refsB, 0)], [(refsB, 0)], [], 1048576, fuse, dn⟩
theorem kD_append {bs rb : List UInt8} {sf fu : Nat} (h : bs.length + rb.length ≤ 1048576) (hf : 2 ≤ fu) : appendM (kD bs sf fu false) refsB rb = (kD (bs ++ rb) sf (fu - 1) false, 0) := by
  have hr : roomM (kD bs sf fu false) = 1048576 - (bs.length + 0) := rfl
  have hfd : findM (kD bs sf fu false) refsB = (some 0, 0) := rfl
  have hst : stepM (kD bs sf fu false) = (kD bs sf (fu - 1) false, 0) := by
    unfold stepM
    rw [show (kD bs sf fu false).fuse = fu from rfl, if_pos (show 0 < fu by omega), if_neg (show ¬ fu = 1 by omega)]
    rfl
  unfold appendM
  rw [hfd]
  simp only
  rw [hr, if_neg (by omega), hst, if_pos rfl]
  rfl
theorem kD_append1 {bs rb : List UInt8} {sf : Nat} (h : bs.length + rb.length ≤ 1048576) : appendM (kD bs sf 1 false) refsB rb = (kD bs sf 0 true, 50) := by
  have hr : roomM (kD bs sf 1 false) = 1048576 - (bs.length + 0) := rfl
  have hfd : findM (kD bs sf 1 false) refsB = (some 0, 0) := rfl
  unfold appendM
  rw [hfd]
  simp only
  rw [hr, if_neg (by omega)]
  rfl
theorem kD_sync {bs : List UInt8} {sf fu : Nat} (hf : 2 ≤ fu) : syncM (kD bs sf fu false) refsB = (kD bs bs.length (fu - 1) false, 0) := by
  have hfd : findM (kD bs sf fu false) refsB = (some 0, 0) := rfl
  have hst : stepM (kD bs sf fu false) = (kD bs sf (fu - 1) false, 0) := by
    unfold stepM
    rw [show (kD bs sf fu false).fuse = fu from rfl, if_pos (show 0 < fu by omega), if_neg (show ¬ fu = 1 by omega)]
    rfl
  unfold syncM
  rw [hfd]
  simp only
  rw [hst, if_pos rfl]
  rfl
theorem kD_sync1 (bs : List UInt8) (sf : Nat) : syncM (kD bs sf 1 false) refsB = (kD bs sf 0 true, 50) := rfl
theorem kD_fail (n : Int) : failM (stR [] 1048576) n = kD [] 0 (max n 0).toNat false := rfl
/-- a loss of power: the file is a beginning of what was appended -/
theorem kD_crash {bs : List UInt8} {sf fu : Nat} {dn : Bool} (hs : sf ≤ bs.length) (turns keep : Int) : ∃ k, k ≤ bs.length - sf ∧ crashM (kD bs sf fu dn) turns [keep] = stR (bs.take (sf + k)) 1048576 := by
  have e1 : crashM (kD bs sf fu dn) turns [keep] = cutM [(refsB, 0)] [keep] (kD bs sf 0 false) := by
    unfold crashM
    have : (min (max turns 0) ((kD bs sf fu dn).turns.length : Int)).toNat = 0 := by
      show (min (max turns 0) (0 : Int)).toNat = 0
      omega
    simp only [this]
    rfl
  rw [e1]
  by_cases hl : bs.length - sf = 0
  · refine ⟨0, Nat.zero_le _, ?_⟩
    have e2 : sf = bs.length := by omega
    unfold cutM
    have e3 : (fileM (kD bs sf 0 false) 0).b.length - (fileM (kD bs sf 0 false) 0).safe = 0 := hl
    simp only [e3, if_true]
    rw [e2, Nat.add_zero, List.take_length]
    rfl
  · refine ⟨(min (max keep 0) ((bs.length - sf : Nat) : Int)).toNat, by omega, ?_⟩
    unfold cutM
    have e3 : (fileM (kD bs sf 0 false) 0).b.length - (fileM (kD bs sf 0 false) 0).safe = bs.length - sf := rfl
    simp only [e3]
    rw [if_neg hl]
    generalize hk : (min (max keep 0) ((bs.length - sf : Nat) : Int)).toNat = k
    have hkl : k ≤ bs.length - sf := by omega
    unfold cutM
    show (⟨[⟨bs.take (sf + k), sf + k⟩], [(refsB, 0)], [(refsB, 0)], [], 1048576, 0, false⟩ : DM) = ⟨[⟨bs.take (sf + k), (bs.take (sf + k)).length⟩], [(refsB, 0)], [(refsB, 0)], [], 1048576, 0, false⟩
    rw [List.length_take, Nat.min_eq_left (by omega)]
theorem stR_read (bs : List UInt8) (room : Nat) : readM (stR bs room) refsB = (bs, 0) := rfl
end Go.Proofs.YtelbofikcpchiaaGreat
