
/- DiskRoom, plain. -/

import Derived.Test.YtpmifpblamjclaaDk16

import Derived.Test.YtpmifpblamjclaaPartsOpen

namespace Go.Proofs.Ytpmifpblamjclaa

set_option linter.unusedVariables false

set_option linter.unusedSimpArgs false

set_option linter.unusedSectionVars false

open Go.RowKit

theorem far_foot {N g : Nat} {w w0 : World} {m : DM} {d : DA} {A : Option Addr} {cs : List Value} (h : DiskIn N w g m d) (hN : N = w0.heap.size) (hr : Rd w0 A cs) (hne : cs ≠ []) : ∀ a, A = some a → ¬ foot g d a.block := fun a ha hf => by
  subst ha
  obtain ⟨b, o, e, _⟩ := hr.all (List.length_pos_iff.2 hne)
  cases e
  have h1 := hr.lt (List.length_pos_iff.2 hne)
  have h2 := h.foot_ge hf
  dsimp only at h2
  omega
theorem far_bytes {N g : Nat} {w w0 : World} {m : DM} {d : DA} {A : Option Addr} {bs : List UInt8} (h : DiskIn N w g m d) (hN : N = w0.heap.size) (hr : Rd w0 A (b8s bs)) : bs ≠ [] → ∀ a, A = some a → ¬ foot g d a.block := fun hne => far_foot h hN hr (fun e => hne (by
  have := congrArg List.length e
  rw [b8s_length] at this
  exact List.length_eq_zero_iff.1 this))

def lenL (L : List (List UInt8)) (ns : NM) : Nat := (ns.map fun p => (L.getD p.2 []).length).sum
structure RS (m : DM) (R : Nat) (L : List (List UInt8)) (ns : NM) : Prop where
  files : m.files = L.map fun b => (⟨b, 0⟩ : FM)
  now : m.now = ns
  fuse : m.fuse = 0
  down : m.down = false
  most : m.most = R
section

variable {m : DM} {R : Nat} {L : List (List UInt8)} {ns : NM} {s t p : List UInt8} {f : Nat}

theorem RS.step (h : RS m R L ns) : stepM m = (m, 0) := by
  unfold stepM
  rw [if_neg (by rw [h.fuse]; omega)]
theorem RS.turn (h : RS m R L ns) (t : TM) : ∃ m', turnM m t = (m', 0) ∧ RS m' R L (doN ns t) := by
  refine ⟨{ m with now := doN ns t, turns := m.turns ++ [t] }, ?_, ?_⟩
  · unfold turnM
    rw [h.step]
    dsimp only
    rw [if_pos rfl, h.now]
  · exact ⟨h.files, rfl, h.fuse, h.down, h.most⟩
theorem RS.find (h : RS m R L ns) (hf : findN ns s = some f) : findM m s = (some f, 0) := by
  simp [findM, h.down, h.now, hf]
theorem RS.fileM (h : RS m R L ns) (f : Nat) : fileM m f = ⟨L.getD f [], 0⟩ := by
  unfold Go.Proofs.Ytpmifpblamjclaa.fileM
  rw [h.files]
  simp only [List.getD, List.getElem?_map]
  cases L[f]? <;> rfl
theorem RS.lenN (h : RS m R L ns) (ks : NM) : lenN m ks = lenL L ks := by
  unfold Go.Proofs.Ytpmifpblamjclaa.lenN lenL
  congr 1
  exact List.map_congr_left fun p _ => by rw [h.fileM]
theorem RS.room (h : RS m R L ns) : roomM m = R - lenL L ns := by
  unfold roomM
  rw [h.lenN, h.most, h.now]
theorem RS.read (h : RS m R L ns) (hf : findN ns s = some f) : readM m s = (L.getD f [], 0) := by
  unfold readM
  rw [h.find hf]
  dsimp only
  rw [h.fileM]
theorem RS.create (h : RS m R L ns) (hs : namedB s = true) (hf : findN ns s = none) (hl : ns.length < 4096) : ∃ m', createM m s = (m', 0) ∧ RS m' R (L ++ [[]]) (doN ns ⟨[], s, L.length⟩) := by
  have h2 : RS { m with files := m.files ++ [⟨[], 0⟩] } R (L ++ [[]]) ns := ⟨by simp [h.files], h.now, h.fuse, h.down, h.most⟩
  obtain ⟨m', h3, h4⟩ := h2.turn ⟨[], s, L.length⟩
  refine ⟨m', ?_, h4⟩
  unfold createM
  have hfl : m.files.length = L.length := by rw [h.files, List.length_map]
  rw [if_neg (by rw [h.down]; simp), if_neg (by rw [hs]; simp), if_neg (by rw [h.now, hf]; simp), if_neg (by rw [h.now]; omega), if_pos (by rw [h.step]), hfl, h3]
theorem RS.append_ok (h : RS m R L ns) (hf : findN ns s = some f) (hr : lenL L ns + p.length ≤ R) : ∃ m', appendM m s p = (m', 0) ∧ RS m' R (L.set f (L.getD f [] ++ p)) ns := by
  refine ⟨setF m f ⟨L.getD f [] ++ p, 0⟩, ?_, ?_⟩
  · unfold appendM
    rw [h.find hf]
    dsimp only
    rw [if_neg (by rw [h.room]; omega), if_pos (by rw [h.step]), h.step, h.fileM]
  · refine ⟨?_, h.now, h.fuse, h.down, h.most⟩
    show m.files.set f _ = _
    rw [h.files, List.map_set]
theorem RS.append_full (h : RS m R L ns) (hf : findN ns s = some f) (hr : R < lenL L ns + p.length) (hu : lenL L ns ≤ R) : appendM m s p = (m, 51) := by
  unfold appendM
  rw [h.find hf]
  dsimp only
  rw [if_pos (by rw [h.room]; omega)]
theorem RS.rename (h : RS m R L ns) (ht : namedB t = true) (hf : findN ns s = some f) : ∃ m', renameM m s t = (m', 0) ∧ RS m' R L (doN ns ⟨s, t, f⟩) := by
  obtain ⟨m', h3, h4⟩ := h.turn ⟨s, t, f⟩
  refine ⟨m', ?_, h4⟩
  unfold renameM
  rw [if_neg (by rw [ht]; simp), h.find hf]
  exact h3
theorem RS.remove (h : RS m R L ns) (hf : findN ns s = some f) : ∃ m', removeM m s = (m', 0) ∧ RS m' R L (doN ns ⟨s, [], f⟩) := by
  obtain ⟨m', h3, h4⟩ := h.turn ⟨s, [], f⟩
  refine ⟨m', ?_, h4⟩
  unfold removeM
  rw [h.find hf]
  exact h3
end

/-- the names after t of the i were laid over the next -/
def restN (t i : Nat) : NM := (List.range' (t + 1) (i - t - 1)).map fun k => (nm k, k)
def nowT (t i : Nat) : NM := (nm t, 0) :: restN t i
theorem nowT_zero {i : Nat} (hi : i < 21) (h0 : 0 < i) : firstN i = nowT 0 i := by
  have : ∀ i, i < 21 → 0 < i → firstN i = nowT 0 i := by decide +kernel
  exact this i hi h0
theorem nowT_next {t i : Nat} (hi : i < 21) (h0 : t + 1 < i) : doN (nowT t i) ⟨nm t, nm (t + 1), 0⟩ = nowT (t + 1) i ∧ findN (nowT t i) (nm (t + 1)) = some (t + 1) ∧ findN (nowT t i) (nm t) = some 0 := by
  have k1 : ∀ i, i < 21 → ∀ t, t < i - 1 → doN (nowT t i) ⟨nm t, nm (t + 1), 0⟩ = nowT (t + 1) i := by decide +kernel
  have k2 : ∀ i, i < 21 → ∀ t, t < i - 1 → findN (nowT t i) (nm (t + 1)) = some (t + 1) := by decide +kernel
  have k3 : ∀ i, i < 21 → ∀ t, t < i - 1 → findN (nowT t i) (nm t) = some 0 := by decide +kernel
  exact ⟨k1 i hi t (by omega), k2 i hi t (by omega), k3 i hi t (by omega)⟩
theorem nowT_len {t i : Nat} (h : t < i) : (nowT t i).length = i - t := by
  simp [nowT, restN]
  omega
theorem restN_next {t i : Nat} (h : t + 1 < i) : restN t i = (nm (t + 1), t + 1) :: restN (t + 1) i := by
  unfold restN
  have e : i - t - 1 = (i - (t + 1) - 1) + 1 := by omega
  rw [e, List.range'_succ]
  rfl
theorem lenL_nowT {t i : Nat} (L : List (List UInt8)) (h : t + 1 < i) : lenL L (nowT t i) = lenL L (nowT (t + 1) i) + (L.getD (t + 1) []).length := by
  unfold nowT lenL
  rw [restN_next h]
  simp only [List.map_cons, List.sum_cons]
  omega
theorem lenL_head (L : List (List UInt8)) (t i : Nat) : (L.getD 0 []).length ≤ lenL L (nowT t i) := by
  unfold nowT lenL
  simp only [List.map_cons, List.sum_cons]
  omega
theorem nowT_last {i : Nat} (hi : i < 20) : nowT i (i + 1) = [(nm i, 0)] ∧ doN [(nm i, 0)] ⟨nm i, [], 0⟩ = [] ∧ findN [(nm i, 0)] (nm i) = some 0 := by
  have : ∀ i, i < 20 → nowT i (i + 1) = [(nm i, 0)] ∧ doN [(nm i, 0)] ⟨nm i, [], 0⟩ = [] ∧ findN [(nm i, 0)] (nm i) = some 0 := by decide +kernel
  exact this i hi
theorem firstN_next {i : Nat} (hi : i < 20) : doN (firstN i) ⟨[], nm i, i⟩ = firstN (i + 1) ∧ findN (firstN i) (nm i) = none ∧ namedB (nm i) = true ∧ findN (firstN (i + 1)) (nm i) = some i := by
  have : ∀ i, i < 20 → doN (firstN i) ⟨[], nm i, i⟩ = firstN (i + 1) ∧ findN (firstN i) (nm i) = none ∧ namedB (nm i) = true ∧ findN (firstN (i + 1)) (nm i) = some i := by decide +kernel
  exact this i hi
theorem lenL_first (L : List (List UInt8)) (p : List UInt8) : lenL (L ++ [p]) (firstN (L.length + 1)) = lenL L (firstN L.length) + p.length := by
  unfold lenL firstN
  rw [List.range_succ, List.map_append, List.map_append, List.sum_append, List.map_map]
  rw [show ((List.range L.length).map fun i => (nm i, i)).map (fun p : List UInt8 × Nat => (L.getD p.2 []).length) = (List.range L.length).map (fun i => (L.getD i []).length) from by rw [List.map_map]; rfl]
  congr 1
  · congr 1
    refine List.map_congr_left fun k hk => ?_
    have hk' := List.mem_range.1 hk
    simp only [Function.comp, List.getD]
    rw [List.getElem?_append_left hk']
  · simp
theorem RS.make {m : DM} {R : Nat} {L : List (List UInt8)} (h : RS m R L (firstN L.length)) (hl : L.length < 20) : ∃ m', createM m (nm L.length) = (m', 0) ∧ RS m' R (L ++ [[]]) (firstN (L.length + 1)) := by
  obtain ⟨h1, h2, h3, h4⟩ := firstN_next hl
  obtain ⟨m', e, hm⟩ := h.create h3 h2 (by rw [firstN_len]; omega)
  rw [h1] at hm
  exact ⟨m', e, hm⟩
theorem RS.fill {m : DM} {R : Nat} {L : List (List UInt8)} {p : List UInt8} (h : RS m R (L ++ [[]]) (firstN (L.length + 1))) (hl : L.length < 20) (hr : lenL L (firstN L.length) + p.length ≤ R) : ∃ m', appendM m (nm L.length) p = (m', 0) ∧ RS m' R (L ++ [p]) (firstN (L.length + 1)) := by
  obtain ⟨h1, h2, h3, h4⟩ := firstN_next hl
  obtain ⟨m', e, hm⟩ := h.append_ok (p := p) h4 (by rw [lenL_first]; simpa using hr)
  refine ⟨m', e, ?_⟩
  have e2 : (L ++ [[]]).set L.length ((L ++ [[]]).getD L.length [] ++ p) = L ++ [p] := by simp
  rw [e2] at hm
  exact hm
theorem RS.full {m : DM} {R : Nat} {L : List (List UInt8)} {p : List UInt8} (h : RS m R (L ++ [[]]) (firstN (L.length + 1))) (hl : L.length < 20) (hr : R < lenL L (firstN L.length) + p.length) (hu : lenL L (firstN L.length) ≤ R) : appendM m (nm L.length) p = (m, 51) := by
  obtain ⟨h1, h2, h3, h4⟩ := firstN_next hl
  refine h.append_full h4 ?_ ?_
  · rw [lenL_first]; simpa using hr
  · rw [lenL_first]; simpa using hu
theorem RS.start (R : Nat) : RS (newM (R : Int)) R [] (firstN 0) := by
  refine ⟨rfl, rfl, rfl, rfl, ?_⟩
  show (max (R : Int) 0).toNat = R
  omega
def nmB (i : Nat) : ByteArray := ⟨#[UInt8.ofNat (97 + i)]⟩
theorem nmB_l (i : Nat) : (nmB i).data.toList = nm i := rfl
theorem nmB_s (i : Nat) : (nmB i).size ≤ maxLen := by show 1 ≤ maxLen; unfold maxLen; omega
theorem nowT_c0 (t i : Nat) : (namesC (nowT t i))[0]? = some (.string (nmB t)) := rfl
theorem nowT_c1 {t i : Nat} (h : t + 1 < i) : (namesC (nowT t i))[1]? = some (.string (nmB (t + 1))) := by
  unfold nowT
  rw [restN_next h]
  rfl
end Go.Proofs.Ytpmifpblamjclaa
