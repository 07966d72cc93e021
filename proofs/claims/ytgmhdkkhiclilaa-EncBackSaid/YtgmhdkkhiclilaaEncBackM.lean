/- What is written, read back: the plain law; and 'append(b, make([]byte, k)...)' onto a row of the call's own. -/
import Derived.Test.YtgmhdkkhiclilaaEncFails
import Derived.Lib.AppendZerosOnto
namespace Go.Proofs.Ytgmhdkkhiclilaa
set_option linter.unusedVariables false
set_option linter.unusedSimpArgs false
open Go.RowKit

/-! ### the plain law -/
theorem u8_small (m : Nat) (h : m < 256) : (UInt8.ofNat m).toNat = m := by rw [UInt8.toNat_ofNat']; omega
theorem numS_back (mo : Int) (r : List UInt8) : ∀ (k i acc m : Nat), k + i = 9 → m < 128 ^ k → acc + m * 128 ^ i ≤ 4611686018427387904 → ((acc + m * 128 ^ i : Nat) : Int) ≤ mo → (0 < i → 0 < m) →
    numS mo k i acc (numF (k + 1) m ++ r) = some (acc + m * 128 ^ i, r)
  | 0, i, acc, m, hk, hm, _, _, hi => by
    have := hi (by omega)
    simp at hm
    omega
  | k + 1, i, acc, m, hk, hm, h1, h2, hi => by
    by_cases hlt : m < 128
    · rw [numF_lt _ _ hlt]
      have hc : (UInt8.ofNat m).toNat = m := u8_small m (by omega)
      simp only [List.cons_append, List.nil_append, numS, hc]
      have hmod : m % 128 = m := Nat.mod_eq_of_lt hlt
      rw [if_neg (by omega), hmod, if_neg]
      rintro (h | h | ⟨h, h'⟩)
      · omega
      · omega
      · have := hi h'; omega
    · rw [numF_ge _ _ (by omega)]
      have hc : (UInt8.ofNat (m % 128 + 128)).toNat = m % 128 + 128 := u8_small _ (by omega)
      simp only [List.cons_append, numS, hc]
      have hmod : (m % 128 + 128) % 128 = m % 128 := by omega
      rw [if_pos (by omega), hmod]
      have e : acc + m % 128 * 128 ^ i + m / 128 * 128 ^ (i + 1) = acc + m * 128 ^ i := by
        rw [Nat.pow_succ, Nat.mul_comm (128 ^ i) 128, ← Nat.mul_assoc, Nat.add_assoc, ← Nat.add_mul]
        congr 2
        omega
      have := numS_back mo r k (i + 1) (acc + m % 128 * 128 ^ i) (m / 128) (by omega) (by rw [Nat.pow_succ] at hm; omega) (by rw [e]; exact h1) (by rw [e]; exact h2) (fun _ => by omega)
      rw [this, e]
theorem getNum_back (n : Nat) (mo : Int) (r : List UInt8) (h : n ≤ 4611686018427387904) (hm : (n : Int) ≤ mo) : getNum (some (numB n ++ r)) mo = (n, some r) := by
  have := numS_back mo r 9 0 0 n rfl (by have h3 : (128 : Nat) ^ 9 = 9223372036854775808 := by decide
                                         omega) (by simpa using h) (by simpa using hm) (fun h => by omega)
  simp only [Nat.pow_zero, Nat.mul_one, Nat.zero_add] at this
  simp only [getNum, numB, this]
theorem getText_back (s r : List UInt8) (h : s.length ≤ 500) : getText (some (textB s ++ r)) 500 = (s, some r) := by
  have hc : clampN (s.length : Int) = s.length := by
    unfold clampN; rw [if_neg (by omega), if_neg (by omega)]; simp
  unfold getText textB
  rw [hc, List.append_assoc, getNum_back s.length 500 (s ++ r) (by omega) (by omega)]
  dsimp only
  rw [getN_yes (by simp)]
  simp
theorem getId_back (id r : List UInt8) (h : id.length = 32) : getId (some (id ++ r)) = (id, some r) := by
  unfold getId
  rw [getN_yes (by simp; omega)]
  dsimp only
  rw [← h, List.take_left, List.drop_left]
  have : padId id = id := by unfold padId; rw [if_neg (by intro h0; rw [h0] at h; simp at h)]
  rw [this]
theorem getId_short (id : List UInt8) (h : id.length < 32) : getId (some id) = (zero32, none) := by
  unfold getId
  rw [getN_no (fun bs e => by cases e; exact h)]
  rfl

/-- numbers' bytes; texts' -/
def nB : List Int → List UInt8
  | [] => []
  | n :: r => numB (clampN n) ++ nB r
def tB : List ByteArray → List UInt8
  | [] => []
  | s :: r => textB s.data.toList ++ tB r
theorem nB_append (a b : List Int) : nB (a ++ b) = nB a ++ nB b := by
  induction a with
  | nil => rfl
  | cons n r ih => simp [nB, ih]
theorem tB_append (a b : List ByteArray) : tB (a ++ b) = tB a ++ tB b := by
  induction a with
  | nil => rfl
  | cons n r ih => simp [tB, ih]
theorem nB_take (l : List Int) (k : Nat) (h : k < l.length) : nB (l.take (k + 1)) = nB (l.take k) ++ numB (clampN l[k]) := by
  rw [List.take_succ_eq_append_getElem h, nB_append]
  simp [nB]
theorem tB_take (l : List ByteArray) (k : Nat) (h : k < l.length) : tB (l.take (k + 1)) = tB (l.take k) ++ textB l[k].data.toList := by
  rw [List.take_succ_eq_append_getElem h, tB_append]
  simp [tB]
theorem nB_drop (l : List Int) (k : Nat) (h : k < l.length) : nB (l.drop k) = numB (clampN l[k]) ++ nB (l.drop (k + 1)) := by
  rw [List.drop_eq_getElem_cons h, nB]
theorem tB_drop (l : List ByteArray) (k : Nat) (h : k < l.length) : tB (l.drop k) = textB l[k].data.toList ++ tB (l.drop (k + 1)) := by
  rw [List.drop_eq_getElem_cons h, tB]
theorem nB_len (l : List Int) : (nB l).length ≤ 10 * l.length := by
  induction l with
  | nil => simp [nB]
  | cons n r ih =>
    have := numB_length n
    simp only [nB, List.length_append, List.length_cons]
    omega
theorem textB_len (s : ByteArray) (h : s.size ≤ 500) : (textB s.data.toList).length ≤ 510 := by
  unfold textB
  rw [List.length_append, size_toList]
  have := numB_length (s.size : Int)
  omega
theorem tB_len (l : List ByteArray) (h : ∀ s ∈ l, s.size ≤ 500) : (tB l).length ≤ 510 * l.length := by
  induction l with
  | nil => simp [tB]
  | cons s r ih =>
    have h1 := textB_len s (h s (by simp))
    have h2 := ih (fun x hx => h x (by simp [hx]))
    simp only [tB, List.length_append, List.length_cons]
    omega
theorem getNum_step (l : List Int) (k : Nat) (h : k < l.length) (R : List UInt8) : getNum (some (nB (l.drop k) ++ R)) 4611686018427387904 = (clampN l[k], some (nB (l.drop (k + 1)) ++ R)) := by
  rw [nB_drop l k h, List.append_assoc]
  exact getNum_back _ _ _ (clampN_le _) (by have := clampN_le l[k]; omega)
theorem getText_step (l : List ByteArray) (k : Nat) (h : k < l.length) (hs : l[k].size ≤ 500) (R : List UInt8) : getText (some (tB (l.drop k) ++ R)) 500 = (l[k].data.toList, some (tB (l.drop (k + 1)) ++ R)) := by
  rw [tB_drop l k h, List.append_assoc]
  exact getText_back _ _ (by rw [size_toList]; exact hs)
theorem back_cut (a id : List UInt8) (h : id.length = 32) : (a ++ id).take ((a ++ id).length - 1) = a ++ id.take 31 := by
  rw [List.take_append]
  simp only [List.length_append, h]
  congr 1
  · exact List.take_of_length_le (by omega)
  · congr 1; omega

/-! ### zeros behind a row of the call's own -/
section
variable {P : Program} (w : World)
theorem run_append_room_zeros (t tn ty e : TypeId) (i : TypeInfo) (z : Value) (kq kn : IntKind) (ht : P.underlying t = some (.slice e)) (htn : P.underlying tn = some (.int kn)) (hi : P.info? e = some i) (hz : i.zero = some z) (hs1 : i.size = 1) (hby : i.bytes = 1)
    (hzc : z.cells = #[z]) (hz1 : z.oneCell' = true) (g sLen sCap : Nat) (cur : Array Value) (hg : w.heap[g]? = some (.cells cur e (0, 0))) (m : Nat) (hm : m ≤ 140737488355328)
    (hroom : sLen + m ≤ sCap) (hfit : sLen + m ≤ cur.size) :
    (Builtin.append_ #[t, tn] ty #[.slice (some ⟨g, 0, none⟩) sLen sCap, .int kq m]).run P w =
      .ok (.slice (some ⟨g, 0, none⟩) (sLen + m) sCap) (w.setRow g (cur.toList.take sLen ++ List.replicate m z ++ cur.toList.drop (sLen + m)).toArray) := by
  have hw : IntKind.i64.wrap (m : Int) = m := by rw [IntKind.wrap_i64]; omega
  have h48i : ¬ (281474976710656 < (m : Int)) := by omega
  have hneg : ¬ ((m : Int) < 0) := by omega
  have hzr : Builtin.zeroCells #[z] m = (List.replicate m z).toArray := by
    apply Array.ext (by simp [Builtin.zeroCells])
    intro k h1 h2
    simp [Builtin.zeroCells, Nat.mod_one]
  have hst := run_storeCells_at P g sLen e (List.replicate m z) 0 cur w hg (by simpa using hfit) (by intro u hu; rw [List.mem_replicate] at hu; rw [hu.2]; exact hz1)
  simp only [Nat.add_zero, List.length_replicate] at hst
  by_cases h0 : m = 0
  · subst h0
    have hw0 : IntKind.i64.wrap 0 = 0 := by decide
    simp at hst
    have hroom' : sLen ≤ sCap := by omega
    simp [hw0, hroom', Builtin.append_, run_underlying ht, run_underlying htn, sizeOf, typeInfo, zeroValue, hi, hz, hs1, hby, asInt, asIntOf, hw, hroom, Addr.add_lit, hst]
  · simp [Builtin.append_, run_underlying ht, run_underlying htn, sizeOf, typeInfo, zeroValue, hi, hz, hs1, hby, asInt, asIntOf, hw, hneg, h48i, h0, hroom, hzc, hzr, Addr.add_lit, hst]
theorem zeros_cells (z : Value) (m : Nat) : Builtin.zeroCells #[z] m = (List.replicate m z).toArray := by
  apply Array.ext (by simp [Builtin.zeroCells])
  intro k h1 h2
  simp [Builtin.zeroCells, Nat.mod_one]
theorem run_append_zeros_own (base : Nat) (t tn ty e : TypeId) (z : Value) (kq kn : IntKind) (ht : P.underlying t = some (.slice e)) (htn : P.underlying tn = some (.int kn)) (hi : (P.info? e).map (fun i => (i.zero, i.size, i.bytes)) = some (some z, 1, 1))
    (hzc : z.cells = #[z]) (hz1 : z.oneCell' = true) (v : Value) (n : Nat) (xs : List Value) (hown : w.ownsRow base e 1 v n xs) (m : Nat) (hb : n + m ≤ 140737488355328) (hbase : base ≤ w.heap.size) :
    ∃ v' w', (Builtin.append_ #[t, tn] ty #[v, .int kq m]).run P w = .ok v' w' ∧ w'.ownsRow base e 1 v' (n + m) (xs ++ List.replicate m z) ∧ w.grownBy w' v.ownBlock := by
  obtain ⟨i, hi, hz, hsize, hby⟩ := info_parts hi
  have hxl : xs.length = n := by simpa using hown.1
  have h63 : n + m ≤ maxLen := by unfold maxLen; omega
  have hlen : (xs ++ List.replicate m z).length = (n + m) * 1 := by simp [hxl]
  have grown : ∀ (old : Nat), old < n + m → ∀ (row : Option Nat),
      (w.drew.alloc (.cells (xs.toArray ++ (List.replicate m z).toArray ++ Builtin.zeroCells z.cells (grownCap w (n + m) old e - (n + m))) e)).ownsRow base e 1
        (.slice (some ⟨w.heap.size, 0, none⟩) (n + m) (grownCap w (n + m) old e)) (n + m) (xs ++ List.replicate m z) ∧
      w.grownBy (w.drew.alloc (.cells (xs.toArray ++ (List.replicate m z).toArray ++ Builtin.zeroCells z.cells (grownCap w (n + m) old e - (n + m))) e)) row := by
    intro old ho row
    have hge := grownCap_ge w (n + m) old e
    have hcm : grownCap w (n + m) old e ≤ maxLen := grownCap_le_maxLen w (n + m) old e h63
    refine ⟨⟨hlen, .inr ⟨w.heap.size, _, _, rfl, hbase, heap_alloc_new w.drew _, hge, hcm, ?_, ?_⟩⟩, ⟨rfl, rfl, rfl, by simp, fun k hk _ => heap_alloc_old w.drew _ hk⟩⟩
    · simp only [Array.size_append, List.size_toArray, size_zeroCells, hzc, hxl, List.length_replicate]
      simp
      omega
    · simp only [Array.toList_append, List.append_assoc]
      rw [← List.append_assoc, ← hlen]
      exact List.take_left
  rcases hown.2 with ⟨rfl, rfl⟩ | ⟨g, cap, cur, rfl, hbg, hg, hnc, hcm, hcs, htake⟩
  · have hx : xs = [] := List.eq_nil_of_length_eq_zero hxl
    subst hx
    by_cases hm : m = 0
    · subst hm
      refine ⟨.slice none 0 0, w, ?_, World.ownsRow_nil w base e 1, ⟨rfl, rfl, rfl, Nat.le_refl _, fun _ _ _ => rfl⟩⟩
      have hw0 : IntKind.i64.wrap 0 = 0 := by decide
      simp [hw0, Builtin.append_, run_underlying ht, run_underlying htn, sizeOf, typeInfo, zeroValue, hi, hz, hsize, hby, asInt, asIntOf]
    · have hr := Lib.run_append_nil_zeros (P := P) w t tn ty e i z kq kn ht htn hi hz m (by omega) (by omega) (by omega) (by rw [hby]; omega)
      have hgr := grown 0 (by omega) (Value.ownBlock (.slice none 0 0))
      simp only [Nat.zero_add, List.nil_append, Array.empty_append] at hgr ⊢
      rw [hzc, zeros_cells] at hr
      rw [hzc] at hgr
      exact ⟨_, _, hr, hgr.1, hgr.2⟩
  · have hcs' : cur.size = cap := by simpa using hcs
    by_cases hroom : n + m ≤ cap
    · have hr := run_append_room_zeros (P := P) w t tn ty e i z kq kn ht htn hi hz hsize hby hzc hz1 g n cap cur hg m (by omega) hroom (by omega)
      refine ⟨_, _, hr, ⟨hlen, .inr ⟨g, cap, _, rfl, hbg, setRow_heap w g cur _ e _ hg, hroom, hcm, ?_, ?_⟩⟩, ⟨rfl, rfl, rfl, by simp, fun k _ hk => setRow_other w g k _ (fun e => hk (by simp [Value.ownBlock, e]))⟩⟩
      · simp only [List.size_toArray, List.length_append, List.length_take, List.length_drop, Array.length_toList, List.length_replicate]
        omega
      · have ht' : cur.toList.take n = xs := by simpa using htake
        rw [ht', ← hlen]
        exact List.take_left
    · have holds : ∀ j u, xs[j]? = some u → w.drew.cell? ((⟨g, 0, none⟩ : Addr).add j) = some u := hown.cells (g := g) rfl
      have hfo := run_firstCells_some (P := P) w.drew i.size n ⟨g, 0, none⟩ n cap xs (by rw [hsize]; simpa using hxl) holds
      have hm : 0 < m := by omega
      have hr := Lib.run_append_grow_zeros (P := P) w t tn ty e i z kq kn ht htn hi hz (some ⟨g, 0, none⟩) n cap xs hfo m hm (by omega) (by omega) (by omega) (by rw [hby]; omega) (by rw [hby]; exact growslice_fits (by omega) (by omega))
      have hgr := grown cap (by omega) (Value.ownBlock (.slice (some ⟨g, 0, none⟩) n cap))
      rw [hzc, zeros_cells] at hr
      rw [hzc] at hgr
      exact ⟨_, _, hr, hgr.1, hgr.2⟩
end

/-- the operation, for the walk -/
theorem wpList_append_zeros8 {ops : Array Oper} {rest : List Oper} {o : Oper} {a : Act} {Q : Exit → Act → World → Prop} {w0 wr : World} (hgd : o.guard = none) (s x : Operand)
    (ho : o.op = .call { callee := .builtin .append, args := #[s, x], argTypes := #[22, 3] }) {N : Nat} {v : Value} {zs : List UInt8} (m : Nat) (hs : a.eval s = v)
    {z : Int} (hx : a.eval x = .int .i64 z) (hzm : z = (m : Int)) (hown : Own8 N w0 wr v zs) (hlen : zs.length + m ≤ 140737488355328)
    (h : ∀ v' w', Own8 N w0 w' v' (zs ++ List.replicate m 0) → wpList Try.prog ops Q rest (a.put o.dst v') w') : wpList Try.prog ops Q (o :: rest) a wr := by
  subst hzm
  obtain ⟨v', w', hr, h1, h2⟩ := run_append_zeros_own (P := Try.prog) wr N 22 3 o.type 5 (.int .u8 0) .i64 .i64 Try.underlying22 Try.underlying3 info_u8 rfl rfl v zs.length (b8s zs) hown.own m hlen hown.sz
  refine Lib.wpList_append_run wr hgd s x _ _ ho _ _ hs hx _ _ hr (h v' w' ?_)
  have e : List.replicate m (Value.int .u8 0) = b8s (List.replicate m 0) := by simp [b8s]
  rw [e] at h1
  exact hown.appended h1 (by simp) h2

theorem wpList_append_bytes_n {ops : Array Oper} {rest : List Oper} {o : Oper} {a : Act} {Q : Exit → Act → World → Prop} {w0 wr : World} (hgd : o.guard = none) (s x : Operand)
    (ho : o.op = .call { callee := .builtin .append, args := #[s, x], argTypes := #[22, 22] }) {N : Nat} {v : Value} {zs : List UInt8} (ys : List UInt8) {A : Option Addr} {n c : Nat} (hn : n = ys.length) (hs : a.eval s = v)
    (hx : a.eval x = .slice A n c) (hr : Rd wr A (b8s ys)) (hown : Own8 N w0 wr v zs) (hlen : zs.length + ys.length ≤ 140737488355328)
    (h : ∀ v' w', Own8 N w0 w' v' (zs ++ ys) → wpList Try.prog ops Q rest (a.put o.dst v') w') : wpList Try.prog ops Q (o :: rest) a wr := by
  subst hn
  exact wpList_append_bytes hgd s x ho ys hs hx hr hown hlen (fun v' w' h1 _ => h v' w' h1)

/-! ### the writers, their slice's length a name -/
theorem num_n (A : Option Addr) (bs : List UInt8) (m c : Nat) (n : Int) (w : World) (hn : m = bs.length) (hr : Rd w A (b8s bs)) (hm : bs.length ≤ 1099511627776) :
    Calls Try.prog 15 #[.slice A m c, .int .i64 n] w fun e w' => ∃ v, e = .returned v ∧ Own8 w.heap.size w w' v (bs ++ numB (clampN n)) := by
  subst hn; exact num_any A bs c n w hr (by omega)
theorem text_n (A : Option Addr) (bs : List UInt8) (m c : Nat) (s : ByteArray) (w : World) (hn : m = bs.length) (hr : Rd w A (b8s bs)) (hm : bs.length ≤ 1099511627776) (hs : s.size ≤ 1099511627776) :
    Calls Try.prog 19 #[.slice A m c, .string s] w fun e w' => ∃ v, e = .returned v ∧ Own8 w.heap.size w w' v (bs ++ textB s.data.toList) := by
  subst hn; exact text_any A bs c s w hr (by omega)
theorem id_n (A : Option Addr) (bs id : List UInt8) (m c : Nat) (w : World) (hn : m = bs.length) (hid : id.length = 32) (hr : Rd w A (b8s bs)) (hm : bs.length ≤ 1099511627776) :
    Calls Try.prog 21 #[.slice A m c, .agg (b8s id).toArray] w fun e w' => ∃ v, e = .returned v ∧ Own8 w.heap.size w w' v (bs ++ id) := by
  subst hn; exact id_any A bs id c w hid hr (by omega)
end Go.Proofs.Ytgmhdkkhiclilaa
