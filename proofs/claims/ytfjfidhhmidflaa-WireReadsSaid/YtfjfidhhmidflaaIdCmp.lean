
/- IDs in their order, the program's and the document's. (Drawn out of XShaHexM and XShaCmp.) -/

import Derived.Test.YtfjfidhhmidflaaRowK

import Derived.Test.YtfjfidhhmidflaaSched

import Derived.Test.YtfjfidhhmidflaaIds

import Derived.Lib.Bytealg

import Derived.Deep.LoopGhost

namespace Go.Proofs.Ytfjfidhhmidflaa

set_option linter.unusedVariables false

set_option linter.unusedSimpArgs false

open Go.RowKit

theorem ret_int' {k : IntKind} {a b : Int} (h : a = b) : Ending.returned (.int k a) = .returned (.int k b) := by rw [h]

/-! ### plain -/

abbrev cmpB := Lib.compareBytes
theorem cmpB_self (a : List UInt8) : cmpB a a = 0 := by
  induction a with
  | nil => rfl
  | cons x r ih =>
    have : ¬ x < x := by simp
    simp only [Lib.compareBytes, if_neg this]
    exact ih
theorem cmpB_cases (a b : List UInt8) : cmpB a b = -1 ∨ cmpB a b = 0 ∨ cmpB a b = 1 := by
  induction a generalizing b with
  | nil => cases b <;> simp [Lib.compareBytes]
  | cons x r ih =>
    cases b with
    | nil => simp [Lib.compareBytes]
    | cons y s =>
      simp only [cmpB, Lib.compareBytes]
      split
      · simp
      · split
        · simp
        · exact ih s
theorem cmpB_swap (a b : List UInt8) : cmpB b a = -cmpB a b := by
  induction a generalizing b with
  | nil => cases b <;> simp [Lib.compareBytes]
  | cons x r ih =>
    cases b with
    | nil => simp [Lib.compareBytes]
    | cons y s =>
      have h := ih s
      simp only [cmpB, Lib.compareBytes] at h ⊢
      by_cases h1 : x < y
      · have h2 : ¬ y < x := fun h2 => absurd (UInt8.lt_trans h1 h2) (by simp)
        simp [h1, h2]
      · by_cases h2 : y < x
        · simp [h1, h2]
        · simp [h1, h2, h]
theorem cmpB_zero (a b : List UInt8) (hl : a.length = b.length) : cmpB a b = 0 ↔ a = b := by
  induction a generalizing b with
  | nil => cases b with
    | nil => simp [Lib.compareBytes]
    | cons y s => simp at hl
  | cons x r ih =>
    cases b with
    | nil => simp at hl
    | cons y s =>
      have h := ih s (by simpa using hl)
      simp only [cmpB, Lib.compareBytes] at h ⊢
      by_cases h1 : x < y
      · have : x ≠ y := fun e => absurd h1 (by rw [e]; simp)
        simp [h1, this]
      · by_cases h2 : y < x
        · have : x ≠ y := fun e => absurd h2 (by rw [e]; simp)
          simp [h1, h2, this]
        · have : x = y := UInt8.le_antisymm (UInt8.not_lt.1 h2) (UInt8.not_lt.1 h1)
          simp [h1, h2, this, h]
theorem bytesLess_cmp (a b : List UInt8) : Op.bytesLess a b = decide (cmpB a b < 0) := by
  induction a generalizing b with
  | nil => cases b <;> simp [Lib.compareBytes, Op.bytesLess]
  | cons x r ih =>
    cases b with
    | nil => simp [Lib.compareBytes, Op.bytesLess]
    | cons y s =>
      have h := ih s
      simp only [cmpB, Lib.compareBytes, Op.bytesLess] at h ⊢
      by_cases h1 : x < y
      · simp [h1]
      · by_cases h2 : y < x
        · have : x ≠ y := fun e => absurd h2 (by rw [e]; simp)
          simp [h1, h2, this]
        · have : x = y := UInt8.le_antisymm (UInt8.not_lt.1 h2) (UInt8.not_lt.1 h1)
          simp [h1, h2, this, h]
theorem cmpB_drop (a b : List UInt8) (k : Nat) (ha : k ≤ a.length) (hb : k ≤ b.length) (h : a.take k = b.take k) : cmpB a b = cmpB (a.drop k) (b.drop k) := by
  induction k generalizing a b with
  | zero => rfl
  | succ k ih =>
    cases a with
    | nil => simp at ha
    | cons x r =>
      cases b with
      | nil => simp at hb
      | cons y s =>
        simp only [List.take_succ_cons, List.cons.injEq] at h
        obtain ⟨rfl, h2⟩ := h
        have := ih r s (by simpa using ha) (by simpa using hb) h2
        have hx : ¬ x < x := by simp
        simp only [List.drop_succ_cons]
        rw [← this]
        simp only [cmpB, Lib.compareBytes, if_neg hx]
theorem cmpB_at (a b : List UInt8) (k : Nat) (ha : k < a.length) (hb : k < b.length) (h : a.take k = b.take k) : (a[k] < b[k] → cmpB a b = -1) ∧ (b[k] < a[k] → cmpB a b = 1) := by
  have h1 := cmpB_drop a b k (by omega) (by omega) h
  rw [List.drop_eq_getElem_cons ha, List.drop_eq_getElem_cons hb] at h1
  constructor
  · intro hl
    rw [h1]
    simp only [cmpB, Lib.compareBytes, if_pos hl]
  · intro hl
    have hn : ¬ a[k] < b[k] := fun h2 => absurd (UInt8.lt_trans h2 hl) (by simp)
    rw [h1]
    simp only [cmpB, Lib.compareBytes, if_neg hn, if_pos hl]

section

variable {P : Program}

theorem run_next_at (w : World) (g : Nat) (s : ByteArray) (pos : Nat) (hg : w.heap[g]? = some (.stringIter s pos)) (h : pos < s.size) :
    ∃ r wd w', (∀ ty, (Instr.next (.pointer (some ⟨g, 0, none⟩)) true ty).run P w = .ok (.tuple #[.bool true, .int .i64 pos, .int .i32 r]) w') ∧ w'.heap[g]? = some (.stringIter s (pos + wd)) ∧ w.grownBy w' (some g) ∧ ((s[pos]'h).toNat < 128 → wd = 1) := by
  have hl := (Array.getElem?_eq_some_iff.1 hg).1
  refine ⟨((Utf8.decode s pos).1 : Int), (Utf8.decode s pos).2, { w with heap := w.heap.setIfInBounds g (.stringIter s (pos + (Utf8.decode s pos).2)) }, ?_, ?_, ⟨rfl, rfl, rfl, by simp, fun k _ hk => ?_⟩, fun ha => by rw [decode_ascii s pos h ha]⟩
  · intro ty
    simp only [Instr.next, getObj, setObj, Sem.run_bind, Sem.run, hg, Result.andThen, h, if_true]
    simp [goInt, hg]
  · simp [hl]
  · have : g ≠ k := fun e => hk (by rw [e])
    simp [this]
theorem run_next_stop (w : World) (g : Nat) (s : ByteArray) (pos : Nat) (ty : TypeId) (hg : w.heap[g]? = some (.stringIter s pos)) (h : ¬ pos < s.size) :
    (Instr.next (.pointer (some ⟨g, 0, none⟩)) true ty).run P w = .ok (.tuple #[.bool false]) w := by
  simp [Instr.next, getObj, Sem.run, hg, h]

theorem run_loadBytes {w : World} {b o : Nat} : ∀ (l : List UInt8) (acc : ByteArray) (k : Nat), (∀ j u, (b8s l)[j]? = some u → w.cell? ⟨b, o + k + j, none⟩ = some u) →
    (Extern.Bytes.loadBytes ⟨b, o + k, none⟩ l.length acc).run P w = .ok ⟨acc.data ++ l.toArray⟩ w
  | [], acc, k, h => by simp [Extern.Bytes.loadBytes]
  | c :: r, acc, k, h => by
    have h0 := h 0 (.int .u8 (c.toNat : Int)) (by simp [b8s])
    have hl : (load ⟨b, o + k, none⟩).run P w = .ok (.int .u8 (c.toNat : Int)) w := by
      rw [run_load]
      simp at h0
      simp [h0]
    have ih := run_loadBytes r (acc.push ((c.toNat : Int).toNat.toUInt8)) (k + 1) (fun j u hu => by
      have := h (j + 1) u (by simpa [b8s] using hu)
      have e : o + (k + 1) + j = o + k + (j + 1) := by omega
      rw [e]; exact this)
    simp only [List.length_cons, Extern.Bytes.loadBytes, Sem.run_bind, hl, Result.andThen_ok]
    have ea : (⟨b, o + k, none⟩ : Addr).add 1 = ⟨b, o + (k + 1), none⟩ := by rw [Addr.add_lit]; congr 1
    rw [ea, ih]
    congr 1
    have e2 : ((c.toNat : Int).toNat.toUInt8) = c := by simp
    rw [e2]
    simp [ByteArray.push]
theorem run_bytesOf {w : World} {A : Option Addr} {l : List UInt8} (c : Nat) (h : Rd w A (b8s l)) (hA : A = none → l = []) : (Extern.Bytes.bytesOf (.slice A l.length c)).run P w = .ok ⟨l.toArray⟩ w := by
  cases A with
  | none =>
    rw [hA rfl]; rfl
  | some ad =>
    cases l with
    | nil => rfl
    | cons x r =>
      obtain ⟨b, o, e, hc⟩ := h.all (by simp [b8s])
      cases e
      have := run_loadBytes (P := P) (w := w) (b := b) (o := o) (x :: r) ByteArray.empty 0 (fun j u hu => by simpa using hc j u hu)
      simpa [Extern.Bytes.bytesOf] using this
end

set_option maxRecDepth 100000 in
theorem compare_any (A B : Option Addr) (x y : List UInt8) (n m c c' : Nat) (w : World) (hn : n = x.length) (hm : m = y.length) (hx : Rd w A (b8s x)) (hy : Rd w B (b8s y)) (hA : A = none → x = []) (hB : B = none → y = []) :
    Calls Try.prog 64 #[.slice A n c, .slice B m c'] w fun e w' => w = w' ∧ e = .returned (.int .i64 (Lib.compareBytes x y)) := by
  have h1 := run_bytesOf (P := Try.prog) c hx hA
  have h2 := run_bytesOf (P := Try.prog) c' hy hB
  subst hn hm
  have hc : (Extern.BytealgCompare.compare #[.slice A x.length c, .slice B y.length c']).run Try.prog w = .ok (.int .i64 (Lib.compareBytes x y)) w := by
    change Sem.run Try.prog (do pure (goInt (Extern.BytealgCompare.cmp (← Extern.Bytes.bytesOf (.slice A x.length c)) (← Extern.Bytes.bytesOf (.slice B y.length c'))))) w = _
    simp only [Sem.run_bind, h1, h2, Sem.run_pure, Result.andThen]
    rw [Lib.cmp_eq]
    simp [goInt]
  clear h1 h2
  go_enter Try.func64, Try.ntmps64
  go_wp2
  rw [run_callFunc_extern Try.func66 (by kernel_rfl) (by kernel_rfl) (by kernel_rfl) (e := Extern.BytealgCompare.compare) (by kernel_rfl), hc]
  simp only [Result.andThen]
  rw [Oper.upon_value]
  go_wp2
  go_ret
  exact ⟨rfl, rfl⟩

/-! ### walks -/

theorem two_box (w : World) (t : TypeId) (a b : List UInt8) : ∃ Wa Wb, w.alloc (.cells (b8s a).toArray t) = Wa ∧ Wa.alloc (.cells (b8s b).toArray t) = Wb ∧ Wa.heap.size = w.heap.size + 1 ∧ Wb.heap.size = w.heap.size + 1 + 1 ∧
    Hid (Wb.heap[w.heap.size]? = some (.cells (b8s a).toArray t (0, 0))) ∧ Hid (Wb.heap[w.heap.size + 1]? = some (.cells (b8s b).toArray t (0, 0))) ∧ Hid (Below w.heap.size w Wb) :=
  ⟨_, _, rfl, rfl, by simp, by simp, Lib.hid (heap_alloc2_old w _ _), Lib.hid (heap_alloc2_new w _ _), Lib.hid ((((Below.refl _ _).alloc (Nat.le_refl _) _).alloc (by simp) _))⟩

set_option maxRecDepth 100000 in
set_option maxHeartbeats 1000000 in
theorem idcmp_any (a b : List UInt8) (ha : a.length = 32) (hb : b.length = 32) (w : World) :
    Calls Try.prog 58 #[.agg (b8s a).toArray, .agg (b8s b).toArray] w fun e w' => e = .returned (.int .i64 (cmpB a b)) ∧ Below w.heap.size w w' := by
  obtain ⟨Wa, Wb, hWa, hWb, hsa, hsb, HA, HB, HBEL⟩ := two_box w 25 a b
  go_enter Try.func58, Try.ntmps58
  go_wp2_with fail
  clear hWa hWb
  refine wp_region_sched (fun w' => True) [(true, 0), (true, 1), (false, 2), (true, 3)] (by kernel_rfl) (by kernel_rfl) rfl (by kernel_rfl) trivial ?_
  (repeat (first | (refine wpS_pass _ rfl (by rfl) ?_; simp only [Act.put, List.getElem_toArray, List.getElem_cons_zero, List.getElem_cons_succ, List.setIfInBounds_toArray, List.set_cons_zero, List.set_cons_succ]) | (refine wpS_take _ ?_ rfl (by rfl) ?_ ?_; rotate_left; (focus (intro w' hS'; (try dsimp only at hS'); (repeat (have hS1 := hS'.1; replace hS' := hS'.2)); go_simp; (try with_reducible rfl); done)); simp only [Act.put, List.getElem_toArray, List.getElem_cons_zero, List.getElem_cons_succ, List.setIfInBounds_toArray, List.set_cons_zero, List.set_cons_succ])))
  refine wpS_do _ rfl (by rfl) (fun K hK => ?_)
  go_simp
  refine (compare_any _ _ a b 32 32 32 32 Wb.drew ha.symm hb.symm (range_rd (range_of_row HA.out)).drew (range_rd (range_of_row HB.out)).drew (fun h => by cases h) (fun h => by cases h)).mono ?_
  rintro e w' ⟨rfl, rfl⟩
  refine hK.out _ _ trivial (fun hS => ?_)
  clear hK hS
  (repeat (first | (refine wpS_pass _ rfl (by rfl) ?_; simp only [Act.put, List.getElem_toArray, List.getElem_cons_zero, List.getElem_cons_succ, List.setIfInBounds_toArray, List.set_cons_zero, List.set_cons_succ]) | (refine wpS_take _ ?_ rfl (by rfl) ?_ ?_; rotate_left; (focus (intro w' hS'; (try dsimp only at hS'); (repeat (have hS1 := hS'.1; replace hS' := hS'.2)); go_simp; (try with_reducible rfl); done)); simp only [Act.put, List.getElem_toArray, List.getElem_cons_zero, List.getElem_cons_succ, List.setIfInBounds_toArray, List.set_cons_zero, List.set_cons_succ])))
  refine wpS_done ?_
  go_wp2_with fail
  go_ret
  exact ⟨rfl, HBEL.out.drew⟩

set_option maxRecDepth 100000 in
set_option maxHeartbeats 1000000 in
theorem ridcmp_any (a b : List UInt8) (ha : a.length = 32) (hb : b.length = 32) (w : World) :
    Calls Try.prog 56 #[.agg (b8s a).toArray, .agg (b8s b).toArray] w fun e w' => e = .returned (.int .i64 (cmpB a b)) ∧ Below w.heap.size w w' := by
  obtain ⟨Wa, Wb, hWa, hWb, hsa, hsb, HA, HB, HBEL⟩ := two_box w 24 a b
  go_enter Try.func56, Try.ntmps56
  go_wp2_with fail
  clear hWa hWb
  go_loopg [5] 32 (fun gk s5 wr => ∃ (k : Nat), k ≤ 32 ∧ gk = 32 - k ∧ s5 = .int .i64 k ∧ Hid (a.take k = b.take k) ∧ Below Wb.heap.size Wb wr)
  case atStart => exact ⟨0, by omega, by omega, rfl, Lib.hid rfl, Below.refl _ _⟩
  case round =>
    obtain ⟨k, hk, rfl, rfl, HT, hbel⟩ := hrel
    by_cases hlt : k < 32
    · have hka : k < a.length := by omega
      have hkb : k < b.length := by omega
      have hAw := (hbel.block _ (by omega)).trans HA.out
      have hBw := (hbel.block _ (by omega)).trans HB.out
      have ca : wr.cell? ⟨w.heap.size, k, none⟩ = some (.int .u8 (a[k].toNat : Int)) := by
        rw [row_cell hAw, List.getElem?_toArray]; exact b8s_get _ _ hka
      have cb : wr.cell? ⟨w.heap.size + 1, k, none⟩ = some (.int .u8 (b[k].toNat : Int)) := by
        rw [row_cell hBw, List.getElem?_toArray]; exact b8s_get _ _ hkb
      have hat := cmpB_at a b k hka hkb HT.out
      have hts := take_eq_succ hka hkb HT.out
      rw [UInt8.lt_iff_toNat_lt, UInt8.lt_iff_toNat_lt] at hat
      have HAT := Lib.hid hat
      have HTS := Lib.hid hts
      clear hAw hBw hat hts
      rcases Nat.lt_trichotomy a[k].toNat b[k].toNat with h | h | h
      · have hc := HAT.out.1 h
        have hi : (a[k].toNat : Int) < (b[k].toNat : Int) := by omega
        have HC := Lib.hid hc
        clear hc
        go_wp2_with fail
        go_quiet (fail)
        go_wp2_with fail
        go_ret
        exact ⟨ret_int' HC.out.symm, below_drewN (HBEL.out.trans (hbel.mono (by omega))) _⟩
      · have hi : ¬ (a[k].toNat : Int) < (b[k].toNat : Int) := by omega
        have hi2 : ¬ (b[k].toNat : Int) < (a[k].toNat : Int) := by omega
        have HT2 := Lib.hid (HTS.out.2 (UInt8.toNat_inj.1 h))
        clear h
        go_wp2_with fail
        go_quiet (fail)
        go_wp2_with fail
        go_quiet (fail)
        go_wp2_with fail
        go_roundg (32 - (k + 1))
        case measure => omega
        case rel => exact ⟨k + 1, by omega, rfl, by go_num, HT2, below_drewN hbel _⟩
      · have hc := HAT.out.2 h
        have hi : ¬ (a[k].toNat : Int) < (b[k].toNat : Int) := by omega
        have hi2 : (b[k].toNat : Int) < (a[k].toNat : Int) := by omega
        have HC := Lib.hid hc
        clear hc
        go_wp2_with fail
        go_quiet (fail)
        go_wp2_with fail
        go_quiet (fail)
        go_wp2_with fail
        go_ret
        exact ⟨ret_int' HC.out.symm, below_drewN (below_drewN (HBEL.out.trans (hbel.mono (by omega))) _) _⟩
    · obtain rfl : k = 32 := by omega
      have he : a = b := by
        have := HT.out
        rwa [← ha, List.take_length, ha, ← hb, List.take_length] at this
      have hc : cmpB a b = 0 := by rw [he]; exact cmpB_self b
      have HC := Lib.hid hc
      clear hc
      go_wp2_with fail
      go_ret
      exact ⟨ret_int' HC.out.symm, HBEL.out.trans (hbel.mono (by omega))⟩
end Go.Proofs.Ytfjfidhhmidflaa
