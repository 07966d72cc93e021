
/- Digits of an ID, plain; a string's iterator in whatever world; strings.IndexByte and bytes.Compare as contracts. -/

import Derived.Test.YtkiggfahcakdeaaShaLib

namespace Go.Proofs.Ytkiggfahcakdeaa

set_option linter.unusedVariables false

set_option linter.unusedSimpArgs false

open Go.RowKit

/-! ### plain -/

def dg (n : Nat) : UInt8 := if n < 10 then UInt8.ofNat (48 + n) else UInt8.ofNat (87 + n)
def hexL : List UInt8 → List UInt8
  | [] => []
  | c :: r => dg (c.toNat / 16) :: dg (c.toNat % 16) :: hexL r
def ud (c : UInt8) : Int := if 48 ≤ c.toNat ∧ c.toNat ≤ 57 then c.toNat - 48 else if 97 ≤ c.toNat ∧ c.toNat ≤ 102 then c.toNat - 87 else -1
def digL : List UInt8 := [48, 49, 50, 51, 52, 53, 54, 55, 56, 57, 97, 98, 99, 100, 101, 102]
theorem of256 {p : UInt8 → Prop} (h : ∀ n < 256, p (UInt8.ofNat n)) (c : UInt8) : p c := by
  have := h c.toNat c.toNat_lt
  rwa [UInt8.ofNat_toNat] at this
theorem indexByte_dig (c : UInt8) : Lib.indexByte digL c = ud c := by
  refine of256 (p := fun c => Lib.indexByte digL c = ud c) ?_ c
  decide +kernel
theorem ud_lt (c : UInt8) : -1 ≤ ud c ∧ ud c < 16 := by
  unfold ud
  split
  · omega
  · split <;> omega
theorem ud_high (c : UInt8) (h : 128 ≤ c.toNat) : ud c = -1 := by
  unfold ud
  rw [if_neg (by omega), if_neg (by omega)]
theorem ud_dg (n : Nat) (h : n < 16) : ud (dg n) = n := by
  have : ∀ n < 16, ud (dg n) = (n : Int) := by decide +kernel
  exact this n h
theorem dg_ud (c : UInt8) (h : 0 ≤ ud c) : dg (ud c).toNat = c := by
  refine of256 (p := fun c => 0 ≤ ud c → dg (ud c).toNat = c) ?_ c h
  decide +kernel
theorem dg_get (n : Nat) (h : n < 16) : digL[n]'(by simpa [digL] using h) = dg n := by
  have : ∀ n < 16, digL.getD n 0 = dg n := by decide +kernel
  have h2 := this n h
  rw [List.getD_eq_getElem?_getD, List.getElem?_eq_getElem (by simpa [digL] using h)] at h2
  exact h2
theorem hexL_append (a b : List UInt8) : hexL (a ++ b) = hexL a ++ hexL b := by
  induction a with
  | nil => rfl
  | cons c r ih => simp [hexL, ih]
theorem hexL_take (l : List UInt8) (k : Nat) (h : k < l.length) : hexL (l.take (k + 1)) = hexL (l.take k) ++ [dg (l[k].toNat / 16), dg (l[k].toNat % 16)] := by
  rw [List.take_succ_eq_append_getElem h, hexL_append]
  rfl
theorem hexL_len (l : List UInt8) : (hexL l).length = 2 * l.length := by
  induction l with
  | nil => rfl
  | cons c r ih => simp [hexL, ih]; omega
def okd (l : List UInt8) : Bool := l.all (fun c => decide (0 ≤ ud c))
def b16 (a b : UInt8) : UInt8 := UInt8.ofNat (16 * (ud a).toNat + (ud b).toNat)
def pairs : List UInt8 → List UInt8
  | a :: b :: r => b16 a b :: pairs r
  | _ => []
def parseL (l : List UInt8) : List UInt8 × Bool := if l.length = 64 ∧ okd l = true then (pairs l, true) else (zero32, false)
/-- what the array holds when k digits are read -/
def arr (l : List UInt8) (k : Nat) : List UInt8 := (List.range 32).map fun j => if 2 * j + 2 ≤ k then b16 (l.getD (2 * j) 0) (l.getD (2 * j + 1) 0) else if 2 * j + 1 ≤ k then UInt8.ofNat (ud (l.getD (2 * j) 0)).toNat else 0
theorem arr_len (l : List UInt8) (k : Nat) : (arr l k).length = 32 := by simp [arr]
theorem arr_zero (l : List UInt8) : arr l 0 = zero32 := by
  simp [arr, zero32, List.range, List.range.loop, List.replicate]
theorem arr_get (l : List UInt8) (k j : Nat) (h : j < 32) : (arr l k)[j]'(by rw [arr_len]; exact h) = if 2 * j + 2 ≤ k then b16 (l.getD (2 * j) 0) (l.getD (2 * j + 1) 0) else if 2 * j + 1 ≤ k then UInt8.ofNat (ud (l.getD (2 * j) 0)).toNat else 0 := by
  simp [arr]
theorem pairs_get : ∀ (l : List UInt8) (m j : Nat), l.length = 2 * m → j < m → (pairs l)[j]? = some (b16 (l.getD (2 * j) 0) (l.getD (2 * j + 1) 0))
  | [], m, j, h, hj => by simp at h; omega
  | [_], m, j, h, hj => by simp at h; omega
  | a :: b :: r, m, 0, h, hj => by simp [pairs]
  | a :: b :: r, m, j + 1, h, hj => by
    have := pairs_get r (m - 1) j (by simp at h; omega) (by omega)
    simp only [pairs, List.getElem?_cons_succ, this]
    have e : 2 * (j + 1) = (2 * j + 1) + 1 := by omega
    rw [e]
    simp
theorem pairs_len : ∀ (l : List UInt8) (m : Nat), l.length = 2 * m → (pairs l).length = m
  | [], m, h => by simp at h; simp [pairs]; omega
  | [_], m, h => by simp at h; omega
  | a :: b :: r, m, h => by
    have := pairs_len r (m - 1) (by simp at h; omega)
    simp only [pairs, List.length_cons, this]
    simp at h; omega
theorem arr_done (l : List UInt8) (h : l.length = 64) : arr l 64 = pairs l := by
  refine List.ext_getElem? fun j => ?_
  by_cases hj : j < 32
  · rw [pairs_get l 32 j (by omega) hj, List.getElem?_eq_getElem (by rw [arr_len]; exact hj), arr_get l 64 j hj, if_pos (by omega)]
  · rw [List.getElem?_eq_none (by rw [arr_len]; omega), List.getElem?_eq_none (by rw [pairs_len l 32 (by omega)]; omega)]
theorem arr_set (l : List UInt8) (k k' j : Nat) (v : UInt8) (hj : j < 32) (hv : (arr l k')[j]'(by rw [arr_len]; exact hj) = v)
    (ho : ∀ i, i < 32 → i ≠ j → (arr l k')[i]? = (arr l k)[i]?) : (arr l k).set j v = arr l k' := by
  refine List.ext_getElem? fun i => ?_
  rw [List.getElem?_set]
  by_cases h : j = i
  · subst h
    rw [if_pos rfl, if_pos (by rw [arr_len]; exact hj), List.getElem?_eq_getElem (by rw [arr_len]; exact hj), hv]
  · rw [if_neg h]
    by_cases hi : i < 32
    · exact (ho i hi (Ne.symm h)).symm
    · rw [List.getElem?_eq_none (by rw [arr_len]; omega), List.getElem?_eq_none (by rw [arr_len]; omega)]
theorem arr_one (l : List UInt8) (k : Nat) (hk : k < 64) : (arr l k).set (k / 2) ((arr l (k + 1))[k / 2]'(by rw [arr_len]; omega)) = arr l (k + 1) := by
  refine arr_set l k (k + 1) (k / 2) _ (by omega) rfl fun i hi hne => ?_
  rw [List.getElem?_eq_getElem (by rw [arr_len]; exact hi), List.getElem?_eq_getElem (by rw [arr_len]; exact hi), arr_get _ _ _ hi, arr_get _ _ _ hi]
  congr 1
  by_cases h1 : 2 * i + 2 ≤ k
  · rw [if_pos h1, if_pos (by omega)]
  · rw [if_neg h1, if_neg (by omega)]
    by_cases h2 : 2 * i + 1 ≤ k
    · omega
    · rw [if_neg h2, if_neg (by omega)]
theorem arr_two (l : List UInt8) (i : Nat) (hi : i < 32) : (arr l (2 * i)).set i (b16 (l.getD (2 * i) 0) (l.getD (2 * i + 1) 0)) = arr l (2 * (i + 1)) := by
  refine arr_set l (2 * i) (2 * (i + 1)) i _ hi ?_ fun j hj hne => ?_
  · rw [arr_get _ _ _ hi, if_pos (by omega)]
  · rw [List.getElem?_eq_getElem (by rw [arr_len]; exact hj), List.getElem?_eq_getElem (by rw [arr_len]; exact hj), arr_get _ _ _ hj, arr_get _ _ _ hj]
    congr 1
    by_cases h1 : 2 * j + 2 ≤ 2 * i
    · rw [if_pos h1, if_pos (by omega)]
    · rw [if_neg h1, if_neg (by omega), if_neg (by omega), if_neg (by omega)]
theorem okd_take (l : List UInt8) (k : Nat) (h : k < l.length) (ho : okd (l.take k) = true) (hc : 0 ≤ ud l[k]) : okd (l.take (k + 1)) = true := by
  rw [List.take_succ_eq_append_getElem h]
  simp only [okd, List.all_append, Bool.and_eq_true] at ho ⊢
  exact ⟨ho, by simpa using hc⟩
theorem okd_bad (l : List UInt8) (k : Nat) (h : k < l.length) (hc : ud l[k] < 0) : okd l = false := by
  rw [Bool.eq_false_iff]
  intro ho
  have := (List.all_eq_true.1 ho) l[k] (List.getElem_mem h)
  simp at this
  omega

/-! ### a string's iterator -/

section

variable {P : Program}

theorem run_next_at (w : World) (g : Nat) (s : ByteArray) (pos : Nat) (hg : w.heap[g]? = some (.stringIter s pos)) (h : pos < s.size) :
    ∃ r wd w', (∀ ty, (Instr.next (.pointer (some ⟨g, 0, none⟩)) true ty).run P w = .ok (.tuple #[.bool true, .int .i64 pos, .int .i32 r]) w') ∧ w'.heap[g]? = some (.stringIter s (pos + wd)) ∧ w.grownBy w' (some g) ∧ ((s[pos]'h).toNat < 128 → wd = 1) := by
  have hl := (Array.getElem?_eq_some_iff.1 hg).1
  refine ⟨((Utf8.decode s pos).1 : Int), (Utf8.decode s pos).2, { w with heap := w.heap.setIfInBounds g (.stringIter s (pos + (Utf8.decode s pos).2)) }, ?_, ?_, ⟨rfl, rfl, rfl, by simp, fun k _ hk => ?_⟩, fun ha => by rw [decode_ascii s pos h ha]⟩
  · intro ty
    simp only [Instr.next, getObj, setObj, Sem.run_bind, Sem.run, hg, Result.andThen, h, if_true]
    simp [goInt, hg]
  · simp [hl]
  · have : g ≠ k := fun e => hk (by rw [e])
    simp [this]
theorem run_next_stop (w : World) (g : Nat) (s : ByteArray) (pos : Nat) (ty : TypeId) (hg : w.heap[g]? = some (.stringIter s pos)) (h : ¬ pos < s.size) :
    (Instr.next (.pointer (some ⟨g, 0, none⟩)) true ty).run P w = .ok (.tuple #[.bool false]) w := by
  simp [Instr.next, getObj, Sem.run, hg, h]

theorem run_loadBytes {w : World} {b o : Nat} : ∀ (l : List UInt8) (acc : ByteArray) (k : Nat), (∀ j u, (b8s l)[j]? = some u → w.cell? ⟨b, o + k + j, none⟩ = some u) →
    (Extern.Bytes.loadBytes ⟨b, o + k, none⟩ l.length acc).run P w = .ok ⟨acc.data ++ l.toArray⟩ w
  | [], acc, k, h => by simp [Extern.Bytes.loadBytes]
  | c :: r, acc, k, h => by
    have h0 := h 0 (.int .u8 (c.toNat : Int)) (by simp [b8s])
    have hl : (load ⟨b, o + k, none⟩).run P w = .ok (.int .u8 (c.toNat : Int)) w := by
      rw [run_load]
      simp at h0
      simp [h0]
    have ih := run_loadBytes r (acc.push ((c.toNat : Int).toNat.toUInt8)) (k + 1) (fun j u hu => by
      have := h (j + 1) u (by simpa [b8s] using hu)
      have e : o + (k + 1) + j = o + k + (j + 1) := by omega
      rw [e]; exact this)
    simp only [List.length_cons, Extern.Bytes.loadBytes, Sem.run_bind, hl, Result.andThen_ok]
    have ea : (⟨b, o + k, none⟩ : Addr).add 1 = ⟨b, o + (k + 1), none⟩ := by rw [Addr.add_lit]; congr 1
    rw [ea, ih]
    congr 1
    have e2 : ((c.toNat : Int).toNat.toUInt8) = c := by simp
    rw [e2]
    simp [ByteArray.push]
theorem run_bytesOf {w : World} {A : Option Addr} {l : List UInt8} (c : Nat) (h : Rd w A (b8s l)) (hA : A = none → l = []) : (Extern.Bytes.bytesOf (.slice A l.length c)).run P w = .ok ⟨l.toArray⟩ w := by
  cases A with
  | none =>
    rw [hA rfl]; rfl
  | some ad =>
    cases l with
    | nil => rfl
    | cons x r =>
      obtain ⟨b, o, e, hc⟩ := h.all (by simp [b8s])
      cases e
      have := run_loadBytes (P := P) (w := w) (b := b) (o := o) (x :: r) ByteArray.empty 0 (fun j u hu => by simpa using hc j u hu)
      simpa [Extern.Bytes.bytesOf] using this
end

/-! ### contracts -/

set_option maxRecDepth 100000 in
theorem indexByte_any (s : ByteArray) (c : UInt8) (w : World) :
    Calls Try.prog 29 #[.string s, .int .u8 (c.toNat : Int)] w fun e w' => w = w' ∧ e = .returned (.int .i64 (Lib.indexByte s.data.toList c)) := by
  have hc : ((c.toNat : Int)).toNat.toUInt8 = c := by simp
  have hsl : Calls Try.prog 45 #[.string s, .int .u8 (c.toNat : Int)] w fun e w' => w = w' ∧ e = .returned (.int .i64 (Lib.indexByte s.data.toList c)) := by
    go_enter Try.func45, Try.ntmps45
    go_wp2
    rw [run_callFunc_extern Try.func56 (by kernel_rfl) (by kernel_rfl) (by kernel_rfl) (e := Extern.BytealgIndexByte.indexByte) (by kernel_rfl), Lib.run_indexByteString, hc]
    simp only [Result.andThen]
    rw [Oper.upon_value]
    go_wp2
    go_ret
    exact ⟨rfl, rfl⟩
  go_enter Try.func29, Try.ntmps29
  go_wp2_with fail
  refine hsl.mono ?_
  rintro e w' ⟨rfl, rfl⟩
  go_wp2
  go_ret
  exact ⟨rfl, rfl⟩

set_option maxRecDepth 100000 in
theorem compare_any (A B : Option Addr) (x y : List UInt8) (n m c c' : Nat) (w : World) (hn : n = x.length) (hm : m = y.length) (hx : Rd w A (b8s x)) (hy : Rd w B (b8s y)) (hA : A = none → x = []) (hB : B = none → y = []) :
    Calls Try.prog 31 #[.slice A n c, .slice B m c'] w fun e w' => w = w' ∧ e = .returned (.int .i64 (Lib.compareBytes x y)) := by
  have h1 := run_bytesOf (P := Try.prog) c hx hA
  have h2 := run_bytesOf (P := Try.prog) c' hy hB
  subst hn hm
  have hc : (Extern.BytealgCompare.compare #[.slice A x.length c, .slice B y.length c']).run Try.prog w = .ok (.int .i64 (Lib.compareBytes x y)) w := by
    change Sem.run Try.prog (do pure (goInt (Extern.BytealgCompare.cmp (← Extern.Bytes.bytesOf (.slice A x.length c)) (← Extern.Bytes.bytesOf (.slice B y.length c'))))) w = _
    simp only [Sem.run_bind, h1, h2, Sem.run_pure, Result.andThen]
    rw [Lib.cmp_eq]
    simp [goInt]
  clear h1 h2
  go_enter Try.func31, Try.ntmps31
  go_wp2
  rw [run_callFunc_extern Try.func46 (by kernel_rfl) (by kernel_rfl) (by kernel_rfl) (e := Extern.BytealgCompare.compare) (by kernel_rfl), hc]
  simp only [Result.andThen]
  rw [Oper.upon_value]
  go_wp2
  go_ret
  exact ⟨rfl, rfl⟩
end Go.Proofs.Ytkiggfahcakdeaa
