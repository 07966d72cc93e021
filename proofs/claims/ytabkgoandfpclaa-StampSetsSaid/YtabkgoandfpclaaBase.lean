
/- Words for memory that the walks of this seat share: a slice that reads as cells, a row of the call's own, append. No condition; no program. -/

import Derived.WalkKit

import Derived.Lib.Hide

import Derived.Maps.AppendAt

import Derived.Deep.Draws

import Derived.WalkSpells

import Derived.WalkSmall

import Derived.Deep.QuietTactic

import Derived.BigQuiet

import Derived.Lib.SlBytesConst

import Derived.Lib.AppendStr

import Derived.Laws.IdiomStrings

import Derived.Deep.RegionLaw

import Derived.Deep.RegionHeld3

namespace Go.Proofs.Ytabkgoandfpclaa

open Go.RowKit

/-- the slice's address A leads to the cells cs -/
def Rd (w : World) (A : Option Addr) (cs : List Value) : Prop :=
  ∀ j u, cs[j]? = some u → ∃ b o, A = some ⟨b, o, none⟩ ∧ w.cell? ⟨b, o + j, none⟩ = some u

theorem Rd.nil {w : World} {A : Option Addr} : Rd w A [] := fun j u h => by simp at h

theorem Rd.at_ {w : World} {A : Option Addr} {cs : List Value} (h : Rd w A cs) (k : Nat) (hk : k < cs.length) :
    ∃ b o, A = some ⟨b, o, none⟩ ∧ w.cell? ⟨b, o + k, none⟩ = some cs[k] := h k _ (List.getElem?_eq_getElem hk)

/-- one block and offset for all cells -/
theorem Rd.all {w : World} {A : Option Addr} {cs : List Value} (h : Rd w A cs) (hp : 0 < cs.length) :
    ∃ b o, A = some ⟨b, o, none⟩ ∧ ∀ j u, cs[j]? = some u → w.cell? ⟨b, o + j, none⟩ = some u := by
  obtain ⟨b, o, hA, _⟩ := h.at_ 0 hp
  refine ⟨b, o, hA, fun j u hu => ?_⟩
  obtain ⟨b', o', hA', hc⟩ := h j u hu
  rw [hA] at hA'
  cases hA'
  exact hc

theorem Rd.lt {w : World} {b o : Nat} {s : Option Nat} {cs : List Value} (h : Rd w (some ⟨b, o, s⟩) cs) (hp : 0 < cs.length) : b < w.heap.size := by
  obtain ⟨b', o', hA, hc⟩ := h.at_ 0 hp
  cases hA
  exact World.block_lt_of_cell? w _ hc

theorem Rd.keep {w w' : World} {A : Option Addr} {cs : List Value} (h : Rd w A cs)
    (hk : ∀ ad, A = some ad → ad.block < w.heap.size → w'.heap[ad.block]? = w.heap[ad.block]?) : Rd w' A cs := fun j u hu => by
  obtain ⟨b, o, hA, hc⟩ := h j u hu
  refine ⟨b, o, hA, ?_⟩
  have hb := World.block_lt_of_cell? w _ hc
  have hk' : w'.heap[b]? = w.heap[b]? := hk ⟨b, o, none⟩ hA hb
  exact (World.cell?_of_block (w := w) (w' := w') (a := ⟨b, o + j, none⟩) hk').trans hc

theorem Rd.below {w w' : World} {A : Option Addr} {cs : List Value} (h : Rd w A cs) (hb : Below w.heap.size w w') : Rd w' A cs :=
  h.keep fun _ _ hlt => hb.block _ hlt
theorem Rd.belowB {w w' : World} {B : Nat} {A : Option Addr} {cs : List Value} (h : Rd w A cs) (hb : Below B w w') (hA : ∀ ad, A = some ad → ad.block < B) : Rd w' A cs :=
  h.keep fun _ e _ => hb.block _ (hA _ e)
theorem Rd.alloc {w : World} {A : Option Addr} {cs : List Value} (h : Rd w A cs) (o : Obj) : Rd (w.alloc o) A cs :=
  h.keep fun _ _ hlt => Below.heap_alloc _ _ _ hlt
theorem Rd.drew {w : World} {A : Option Addr} {cs : List Value} (h : Rd w A cs) : Rd w.drew A cs := h
theorem Rd.drewN {w : World} {A : Option Addr} {cs : List Value} (h : Rd w A cs) (n : Nat) : Rd (w.drewN n) A cs := h
theorem Rd.setCell {w : World} {A : Option Addr} {cs : List Value} (h : Rd w A cs) {p : Addr} (hp : ∀ ad, A = some ad → ad.block ≠ p.block) (u : Value) : Rd (w.setCell p u) A cs :=
  h.keep fun _ e _ => Below.heap_setCell _ _ _ _ (hp _ e)
theorem Rd.grown {w w' : World} {row : Option Nat} {A : Option Addr} {cs : List Value} (h : Rd w A cs) (hg : w.grownBy w' row) (hne : ∀ ad, A = some ad → some ad.block ≠ row) : Rd w' A cs :=
  h.keep fun _ e hlt => hg.block _ hlt (hne _ e)

/-- what 's[k:]' reads -/
theorem Rd.drop {w : World} {A : Option Addr} {cs : List Value} (h : Rd w A cs) {k size cap : Nat} (hc : cs.length ≤ cap * size) :
    Rd w (if cap = k then A else A.map (·.add (k * size))) (cs.drop (k * size)) := fun j u hu => by
  rw [List.getElem?_drop] at hu
  obtain ⟨b, o, rfl, hcell⟩ := h _ u hu
  have hlt := (List.getElem?_eq_some_iff.1 hu).1
  by_cases hk : cap = k
  · subst hk; omega
  · rw [if_neg hk]
    refine ⟨b, o + k * size, ?_, by rw [Nat.add_assoc]; exact hcell⟩
    rw [Option.map_some, Addr.add_lit]

theorem Rd.take {w : World} {A : Option Addr} {cs : List Value} (h : Rd w A cs) (n : Nat) : Rd w A (cs.take n) := fun j u hu => by
  rw [List.getElem?_take] at hu
  split at hu
  · exact h j u hu
  · cases hu

theorem Rd.front {w : World} {A : Option Addr} {xs ys : List Value} (h : Rd w A (xs ++ ys)) : Rd w A xs := by
  have := h.take xs.length
  rwa [List.take_left] at this

/-- a new block reads as its cells -/
theorem Rd.new (w : World) (cs : List Value) (t : TypeId) : Rd (w.alloc (.cells cs.toArray t)) (some ⟨w.heap.size, 0, none⟩) cs := fun j u hu => by
  refine ⟨w.heap.size, 0, rfl, ?_⟩
  rw [cell_of_row _ w.heap.size _ cs.toArray t (0, 0) (heap_alloc_new w _)]
  simpa using hu

/-- a new block, whatever of it is marked, reads as its cells -/
theorem Rd.newm (w : World) (cs : List Value) (t : TypeId) (fz : Nat × Nat) : Rd (w.alloc (.cells cs.toArray t fz)) (some ⟨w.heap.size, 0, none⟩) cs := fun j u hu => by
  refine ⟨w.heap.size, 0, rfl, ?_⟩
  rw [cell_of_row _ w.heap.size _ cs.toArray t fz (heap_alloc_new w _)]
  simpa using hu

/-! ### rows of the call's own -/

theorem own_slice {w : World} {base : Nat} {e : TypeId} {size : Nat} {v : Value} {n : Nat} {xs : List Value} (h : w.ownsRow base e size v n xs) :
    ∃ A c, v = .slice A n c ∧ n ≤ c ∧ c ≤ maxLen ∧ (∀ ad, A = some ad → base ≤ ad.block ∧ ad.block < w.heap.size) ∧ (A = none → n = 0 ∧ c = 0) := by
  rcases h.2 with ⟨rfl, rfl⟩ | ⟨g, cap, cur, rfl, hb, hh, hn, hc, _⟩
  · refine ⟨none, 0, rfl, by omega, by unfold maxLen; omega, ?_, fun _ => ⟨rfl, rfl⟩⟩
    intro ad e
    cases e
  · refine ⟨_, cap, rfl, hn, hc, ?_, ?_⟩
    · intro ad e
      cases e
      exact ⟨hb, (Array.getElem?_eq_some_iff.1 hh).1⟩
    · intro e
      cases e

theorem own_head {w : World} {base : Nat} {e : TypeId} {size : Nat} {v : Value} {n : Nat} {xs : List Value} (h : w.ownsRow base e size v n xs) (hn : 0 < n) :
    ∃ g c, v = .slice (some ⟨g, 0, none⟩) n c ∧ n ≤ c ∧ c ≤ maxLen ∧ base ≤ g ∧ g < w.heap.size := by
  rcases h.2 with ⟨rfl, rfl⟩ | ⟨g, cap, cur, rfl, hb, hh, hn', hc, _⟩
  · omega
  · exact ⟨g, cap, rfl, hn', hc, hb, (Array.getElem?_eq_some_iff.1 hh).1⟩

theorem own_rd {w : World} {base : Nat} {e : TypeId} {size : Nat} {A : Option Addr} {n m c : Nat} {xs : List Value} (h : w.ownsRow base e size (.slice A n c) m xs) : Rd w A xs := fun j u hu => by
  rcases h.2 with ⟨h0, hn⟩ | ⟨g, cap, cur, hv, _⟩
  · have := h.1
    rw [hn, Nat.zero_mul] at this
    have hx : xs = [] := List.eq_nil_of_length_eq_zero this
    subst hx
    simp at hu
  · cases hv
    refine ⟨g, 0, rfl, ?_⟩
    have := h.cells (g := g) rfl j u hu
    rwa [Addr.add_lit] at this

theorem own_mono {w : World} {base base' : Nat} {e : TypeId} {size : Nat} {v : Value} {n : Nat} {xs : List Value} (h : w.ownsRow base e size v n xs) (hb : base' ≤ base) : w.ownsRow base' e size v n xs := by
  refine ⟨h.1, ?_⟩
  rcases h.2 with hn | ⟨g, cap, cur, hv, hg, r⟩
  · exact .inl hn
  · exact .inr ⟨g, cap, cur, hv, Nat.le_trans hb hg, r⟩

theorem own_keep {w w' : World} {base : Nat} {e : TypeId} {size : Nat} {v : Value} {n : Nat} {xs : List Value} (h : w.ownsRow base e size v n xs)
    (hk : ∀ b, v.ownBlock = some b → b < w.heap.size → w'.heap[b]? = w.heap[b]?) : w'.ownsRow base e size v n xs := by
  refine ⟨h.1, ?_⟩
  rcases h.2 with hn | ⟨g, cap, cur, hv, hg, hh, r⟩
  · exact .inl hn
  · subst hv
    exact .inr ⟨g, cap, cur, rfl, hg, (hk g rfl (Array.getElem?_eq_some_iff.1 hh).1).trans hh, r⟩

theorem own_below {w w' : World} {base : Nat} {e : TypeId} {size : Nat} {v : Value} {n : Nat} {xs : List Value} (h : w.ownsRow base e size v n xs) (hb : Below w.heap.size w w') : w'.ownsRow base e size v n xs :=
  own_keep h fun _ _ hlt => hb.block _ hlt

/-- a literal block of the call's own, whole -/
theorem own_new (w : World) (base : Nat) (e : TypeId) (size n : Nat) (cs : List Value) (hb : base ≤ w.heap.size) (hl : cs.length = n * size) (hm : n ≤ maxLen) :
    (w.alloc (.cells cs.toArray e)).ownsRow base e size (.slice (some ⟨w.heap.size, 0, none⟩) n n) n cs :=
  ⟨hl, .inr ⟨w.heap.size, n, cs.toArray, rfl, hb, heap_alloc_new w _, Nat.le_refl _, hm, by simpa using hl, by rw [← hl]; simp⟩⟩

theorem below_grown_own {B : Nat} {e : TypeId} {size : Nat} {a w w' : World} {v : Value} {n : Nat} {xs : List Value} (h : Below B a w) (ho : w.ownsRow B e size v n xs) (hg : w.grownBy w' v.ownBlock) (hB : B ≤ w.heap.size) : Below B a w' :=
  h.grown hg hB fun k hk => (ho.lt k hk).1

section

variable {P : Program} (w : World)

theorem run_append_of_nil (base : Nat) (t ty e : TypeId) (i : TypeInfo) (size : Nat) (ht : P.underlying t = some (.slice e)) (hi : P.info? e = some i)
    (v : Value) (n : Nat) (xs : List Value) (hown : w.ownsRow base e size v n xs) (A : Option Addr) (c : Nat) (hA : A = none) : (Builtin.append_ #[t, t] ty #[v, .slice A 0 c]).run P w = .ok v w := by
  subst hA
  rcases hown.2 with ⟨rfl, rfl⟩ | ⟨g, cap, cur, rfl, _, _, hnc, _⟩
  · simp [Builtin.append_, run_underlying ht, sizeOf, typeInfo, hi, Builtin.lenOf, Builtin.firstCells]
  · simp [Builtin.append_, run_underlying ht, sizeOf, typeInfo, hi, Builtin.lenOf, Builtin.firstCells, hnc, storeCells]

/-- append onto a row of the call's own, of whatever reads as cells -/
theorem run_append_rd (base : Nat) (t ty e : TypeId) (z : Value) (size bytes : Nat) (ht : P.underlying t = some (.slice e)) (hi : (P.info? e).map (fun i => (i.zero, i.size, i.bytes)) = some (some z, size, bytes))
    (hzs : z.cells.size = size) (hsz : 0 < size)
    (v : Value) (n : Nat) (xs : List Value) (hown : w.ownsRow base e size v n xs)
    (A : Option Addr) (m c : Nat) (news : List Value) (hn : news.length = m * size) (hr : Rd w A news) (h1 : ∀ u ∈ news, u.oneCell' = true)
    (h63 : n + m ≤ maxLen) (hbytes : (n + m) * bytes ≤ 140737488355328) (hbase : base ≤ w.heap.size) :
    ∃ v' w', (Builtin.append_ #[t, t] ty #[v, .slice A m c]).run P w = .ok v' w' ∧ w'.ownsRow base e size v' (n + m) (xs ++ news) ∧ w.grownBy w' v.ownBlock ∧
      (v'.ownBlock = v.ownBlock ∨ v'.ownBlock = some w.heap.size) := by
  obtain ⟨i, hi, hz, hsize, hby⟩ := info_parts hi
  rcases A with _ | ad
  · have hm : m = 0 := by
      rcases Nat.eq_zero_or_pos m with h0 | h0
      · exact h0
      · have hp : 0 < news.length := by rw [hn]; exact Nat.mul_pos h0 hsz
        obtain ⟨b, o, hA, _⟩ := hr.at_ 0 hp
        cases hA
    subst hm
    have hn' : news = [] := List.eq_nil_of_length_eq_zero (by simpa using hn)
    subst hn'
    exact ⟨v, w, run_append_of_nil w base t ty e i size ht hi v n xs hown _ c rfl, by simpa using hown, World.grownBy.refl w _, .inl rfl⟩
  · have hcells : ∀ j u, news[j]? = some u → w.cell? (ad.add j) = some u := by
      intro j u hu
      obtain ⟨b, o, hA, hc⟩ := hr j u hu
      cases hA
      rw [Addr.add_lit]
      exact hc
    obtain ⟨v', w', hrun, h2, h3, _, h5⟩ := run_append_own_at (P := P) w base t ty e i z size bytes ht hi hz hsize hby hzs hsz v n xs hown ad m c news hn hcells h1 h63 hbytes hbase
    exact ⟨v', w', hrun, h2, h3, h5⟩

theorem wp_append_rd {o : Oper} {a : Act} {K : Act → World → Prop} {Q : Exit → Act → World → Prop} (s x : Operand) (t : TypeId)
    (ho : o.op = .call { callee := .builtin .append, args := #[s, x], argTypes := #[t, t] })
    (base : Nat) (e : TypeId) (z : Value) (size bytes : Nat) (ht : P.underlying t = some (.slice e)) (hi : (P.info? e).map (fun i => (i.zero, i.size, i.bytes)) = some (some z, size, bytes))
    (hzs : z.cells.size = size) (hsz : 0 < size)
    (v : Value) (n : Nat) (xs : List Value) (hs : a.eval s = v) (hown : w.ownsRow base e size v n xs)
    (A : Option Addr) (m c : Nat) (news : List Value) (hx : a.eval x = .slice A m c) (hn : news.length = m * size) (hr : Rd w A news) (h1 : ∀ u ∈ news, u.oneCell' = true)
    (h63 : n + m ≤ maxLen) (hbytes : (n + m) * bytes ≤ 140737488355328) (hbase : base ≤ w.heap.size)
    (h : ∀ v' w', w'.ownsRow base e size v' (n + m) (xs ++ news) → w.grownBy w' v.ownBlock → (v'.ownBlock = v.ownBlock ∨ v'.ownBlock = some w.heap.size) → K (a.put o.dst v') w') : o.wp P a w K Q := by
  obtain ⟨v', w', hrun, h2, h3, h4⟩ := run_append_rd (P := P) w base t o.type e z size bytes ht hi hzs hsz v n xs hown A m c news hn hr h1 h63 hbytes hbase
  unfold Oper.wp execOp
  simp only [ho, resolve, invoke, builtin, Sem.run_bind, Sem.run_pure, Result.andThen_ok, List.map_toArray, List.map_cons, List.map_nil, hs, hx, hrun]
  exact h v' w' h2 h3 h4

theorem wpList_append_rd {ops : Array Oper} {rest : List Oper} {o : Oper} {a : Act} {Q : Exit → Act → World → Prop} (hgd : o.guard = none) (s x : Operand) (t : TypeId)
    (ho : o.op = .call { callee := .builtin .append, args := #[s, x], argTypes := #[t, t] })
    (base : Nat) (e : TypeId) (z : Value) (size bytes : Nat) (ht : P.underlying t = some (.slice e)) (hi : (P.info? e).map (fun i => (i.zero, i.size, i.bytes)) = some (some z, size, bytes))
    (hzs : z.cells.size = size) (hsz : 0 < size)
    (v : Value) (n : Nat) (xs : List Value) (hs : a.eval s = v) (hown : w.ownsRow base e size v n xs)
    (A : Option Addr) (m c : Nat) (news : List Value) (hx : a.eval x = .slice A m c) (hn : news.length = m * size) (hr : Rd w A news) (h1 : ∀ u ∈ news, u.oneCell' = true)
    (h63 : n + m ≤ maxLen) (hbytes : (n + m) * bytes ≤ 140737488355328) (hbase : base ≤ w.heap.size)
    (h : ∀ v' w', w'.ownsRow base e size v' (n + m) (xs ++ news) → w.grownBy w' v.ownBlock → (v'.ownBlock = v.ownBlock ∨ v'.ownBlock = some w.heap.size) → wpList P ops Q rest (a.put o.dst v') w') : wpList P ops Q (o :: rest) a w :=
  wpList_plain hgd fun _ hK => wp_append_rd w s x t ho base e z size bytes ht hi hzs hsz v n xs hs hown A m c news hx hn hr h1 h63 hbytes hbase fun v' w' h2 h3 h4 => hK _ _ (h v' w' h2 h3 h4)
end

/-! ### bytes -/

/-- bytes as cells -/
def b8s (bs : List UInt8) : List Value := bs.map fun c => .int .u8 (c.toNat : Int)
theorem b8s_length (bs : List UInt8) : (b8s bs).length = bs.length := by simp [b8s]
theorem b8s_get (bs : List UInt8) (k : Nat) (h : k < bs.length) : (b8s bs)[k]? = some (.int .u8 (bs[k].toNat : Int)) := by simp [b8s, h]
theorem b8s_append (a b : List UInt8) : b8s (a ++ b) = b8s a ++ b8s b := by simp [b8s]
theorem b8s_one (c : UInt8) : b8s [c] = [.int .u8 (c.toNat : Int)] := rfl
theorem b8s_drop (a : List UInt8) (k : Nat) : b8s (a.drop k) = (b8s a).drop k := by simp [b8s]
theorem b8s_take (a : List UInt8) (k : Nat) : b8s (a.take k) = (b8s a).take k := by simp [b8s]
theorem b8s_one' (bs : List UInt8) : ∀ u ∈ b8s bs, u.oneCell' = true := by
  intro u hu
  obtain ⟨_, _, rfl⟩ := List.mem_map.1 hu
  rfl
theorem Rd.byte {w : World} {A : Option Addr} {bs : List UInt8} (h : Rd w A (b8s bs)) (k : Nat) (hk : k < bs.length) :
    ∃ b o, A = some ⟨b, o, none⟩ ∧ w.cell? ⟨b, o + k, none⟩ = some (.int .u8 (bs[k].toNat : Int)) := h k _ (b8s_get bs k hk)

theorem b8s_inj {a b : List UInt8} (h : b8s a = b8s b) : a = b := by
  induction a generalizing b with
  | nil => cases b with
    | nil => rfl
    | cons y b => simp [b8s] at h
  | cons x a ih => cases b with
    | nil => simp [b8s] at h
    | cons y b =>
      simp only [b8s, List.map_cons, List.cons.injEq, Value.int.injEq, true_and] at h
      obtain ⟨h1, h2⟩ := h
      have hxy : x = y := UInt8.toNat_inj.1 (by omega)
      rw [hxy, ih h2]

/-- a contract's own form: hide and lay open -/
theorem hidm {p : Prop} (h : p) : Hid p := h

/-- integers that are bytes, as bytes -/
def asBytes (zs : List Int) : List UInt8 := zs.map fun z => UInt8.ofNat z.toNat
theorem asBytes_cells {zs : List Int} (h : ∀ n ∈ zs, (Lit.int .u8 n).wf = true) : zs.map (Value.int .u8) = b8s (asBytes zs) := by
  induction zs with
  | nil => rfl
  | cons z zs ih =>
    have hz := h z (by simp)
    have hb : 0 ≤ z ∧ z ≤ 255 := by simpa [Lit.wf, IntKind.min, IntKind.max, IntKind.signed, IntKind.bits] using hz
    simp only [asBytes, b8s, List.map_cons, List.cons.injEq, Value.int.injEq, true_and]
    refine ⟨?_, by simpa [asBytes, b8s] using ih (fun n hn => h n (by simp [hn]))⟩
    have : (UInt8.ofNat z.toNat).toNat = z.toNat := by
      rw [UInt8.toNat_ofNat']; omega
    rw [this]; omega

/-! ### worlds that go on -/

theorem ext_trans {a b c : World} (h : Below a.heap.size a b) (k : Below b.heap.size b c) : Below a.heap.size a c := h.trans (k.mono h.size)
theorem ext_alloc {a b : World} (h : Below a.heap.size a b) (o : Obj) : Below a.heap.size a (b.alloc o) := h.alloc h.size o
theorem ext_drewN {a b : World} (h : Below a.heap.size a b) (n : Nat) : Below a.heap.size a (b.drewN n) := below_drewN h n
theorem range_rd {w : World} {b o : Nat} {cs : List Value} (h : w.rangeAt b o cs) : Rd w (some ⟨b, o, none⟩) cs := fun j u hu => ⟨b, o, rfl, h j u hu⟩
theorem rd_range {w : World} {b o : Nat} {cs : List Value} (h : Rd w (some ⟨b, o, none⟩) cs) : w.rangeAt b o cs := fun j u hu => by
  obtain ⟨b', o', hA, hc⟩ := h j u hu
  cases hA
  exact hc

/-! ### max and min of two integers, whole -/

theorem run_max2c {P : Program} (w : World) (ts : Array TypeId) (t : TypeId) (k k' : IntKind) (x y : Int) : (Builtin.max_ ts t #[.int k x, .int k' y]).run P w = .ok (.int k (max x y)) w := by
  have h : (if y > x then y else x) = max x y := by split <;> omega
  rw [← h]
  simp [Builtin.max_, Builtin.max2]
theorem run_min2c {P : Program} (w : World) (ts : Array TypeId) (t : TypeId) (k k' : IntKind) (x y : Int) : (Builtin.min_ ts t #[.int k x, .int k' y]).run P w = .ok (.int k (min x y)) w := by
  have h : (if y < x then y else x) = min x y := by split <;> omega
  rw [← h]
  simp [Builtin.min_, Builtin.min2]

/-! ### strings and bytes -/

theorem rd_bytesRow (w : World) (s : ByteArray) (cap : Nat) (e : TypeId) (fz : Nat × Nat) : Rd (w.alloc (.cells (bytesRow s cap) e fz)) (some ⟨w.heap.size, 0, none⟩) (b8s s.data.toList) := by
  have h := Rd.newm w (bytesRow s cap).toList e fz
  have e1 : (bytesRow s cap).toList = b8s s.data.toList ++ (Array.replicate (cap - s.size) (Value.int .u8 0)).toList := by
    simp [bytesRow, b8s]
  rw [e1] at h
  have h2 := h.front
  have e2 : (b8s s.data.toList ++ (Array.replicate (cap - s.size) (Value.int .u8 0)).toList).toArray = bytesRow s cap := by rw [← e1]
  rwa [e2] at h2

theorem strCells_b8s (s : ByteArray) : Lib.strCells s = b8s s.data.toList := rfl
theorem size_toList (s : ByteArray) : s.data.toList.length = s.size := by rw [Array.length_toList]; rfl

/-- 'string(b)' of bytes that lie in memory -/
theorem run_str_of_bytes {P : Program} {w : World} {A : Option Addr} {bs : List UInt8} {src dst e : TypeId} (n c : Nat) (hn : n = bs.length)
    (hs : P.underlying src = some (.slice e)) (he : P.underlying e = some (.int .u8)) (hd : P.underlying dst = some .string) (h : Rd w A (b8s bs)) :
    (convert src dst (.slice A n c)).run P w = .ok (.string ⟨bs.toArray⟩) w := by
  subst hn
  rw [run_convert_bytes_string w src dst e A _ c hs he hd]
  cases A with
  | none =>
    cases bs with
    | nil => rfl
    | cons x bs =>
      obtain ⟨b, o, hA, _⟩ := h.byte 0 (by simp)
      cases hA
  | some ad =>
    have hl := run_loadCells_list (P := P) w ad (b8s bs) (fun j v hv => by
      obtain ⟨b, o, hA, hc⟩ := h j v hv
      cases hA
      rw [Addr.add_lit]; exact hc)
    rw [b8s_length] at hl
    have e1 : b8s bs = (bs.map fun c => (c.toNat : Int)).map (Value.int .u8) := by simp [b8s]
    rw [e1] at hl
    rw [run_bytesToString w ad bs.length c _ hl]
    congr 2
    have key : ∀ (l : List UInt8) (r : ByteArray), (l.map fun c => (c.toNat : Int)).foldl (fun r n => r.push (UInt8.ofNat n.toNat)) r = ⟨r.data ++ l.toArray⟩ := by
      intro l
      induction l with
      | nil => intro r; simp
      | cons x l ih =>
        intro r
        simp only [List.map_cons, List.foldl_cons]
        rw [ih]
        have ex : UInt8.ofNat ((x.toNat : Int)).toNat = x := by simp
        rw [ex]
        show (⟨(r.data.push x) ++ l.toArray⟩ : ByteArray) = _
        congr 1
        simp
    rw [key]
    simp

/-- an operation without a guard as one step of a region that draws: nothing but a shape -/
theorem step_plain {P : Program} {ops : Array Oper} {o : Oper} {a : Act} {w : World} {K : Act → World → Prop} {Q : Exit → Act → World → Prop} {E : Prop}
    (hgd : o.guard = none) (h : Oper.wp P o a w K Q) : if Region.wanted o (yielded ops a.tmps) = true then Oper.wp P o a w K Q else E := by
  rw [if_pos (by simp [Region.wanted, hgd])]
  exact h

theorem step_append_rd {P : Program} {ops : Array Oper} {o : Oper} {a : Act} {w : World} {K : Act → World → Prop} {Q : Exit → Act → World → Prop} {E : Prop}
    (hgd : o.guard = none) (s x : Operand) (t : TypeId)
    (ho : o.op = .call { callee := .builtin .append, args := #[s, x], argTypes := #[t, t] })
    (base : Nat) (e : TypeId) (z : Value) (size bytes : Nat) (ht : P.underlying t = some (.slice e)) (hi : (P.info? e).map (fun i => (i.zero, i.size, i.bytes)) = some (some z, size, bytes))
    (hzs : z.cells.size = size) (hsz : 0 < size)
    (v : Value) (n : Nat) (xs : List Value) (hs : a.eval s = v) (hown : w.ownsRow base e size v n xs)
    (A : Option Addr) (m c : Nat) (news : List Value) (hx : a.eval x = .slice A m c) (hn : news.length = m * size) (hr : Rd w A news) (h1 : ∀ u ∈ news, u.oneCell' = true)
    (h63 : n + m ≤ maxLen) (hbytes : (n + m) * bytes ≤ 140737488355328) (hbase : base ≤ w.heap.size)
    (h : ∀ v' w', w'.ownsRow base e size v' (n + m) (xs ++ news) → w.grownBy w' v.ownBlock → (v'.ownBlock = v.ownBlock ∨ v'.ownBlock = some w.heap.size) → K (a.put o.dst v') w') :
    if Region.wanted o (yielded ops a.tmps) = true then Oper.wp P o a w K Q else E := by
  have hw : Region.wanted o (yielded ops a.tmps) = true := by simp [Region.wanted, hgd]
  rw [if_pos hw]
  exact wp_append_rd w s x t ho base e z size bytes ht hi hzs hsz v n xs hs hown A m c news hx hn hr h1 h63 hbytes hbase h
end Go.Proofs.Ytabkgoandfpclaa
