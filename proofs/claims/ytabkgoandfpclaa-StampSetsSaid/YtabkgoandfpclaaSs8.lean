
/- slices.CompactFunc at operations: of neighbours that are equal the first one stays (Cpt). Condition: the row is the call's own to write. -/

import Derived.Test.YtabkgoandfpclaaSs6

import Derived.Lib.SliceRun

namespace Go.Proofs.Ytabkgoandfpclaa

set_option linter.unusedVariables false

set_option linter.unusedSimpArgs false

set_option linter.unusedSectionVars false

open Go.Shelf Go.RowKit Go.Lib Go.Sort Go.Proofs

variable {α : Type} [Inhabited α]

/-- of neighbours that are equal the first one stays -/
inductive Cpt (eq : α → α → Bool) : List α → List α → Prop
  | nil : Cpt eq [] []
  | one (x : α) : Cpt eq [x] [x]
  | same {l c : List α} {z x : α} : Cpt eq (l ++ [z]) c → eq x z = true → Cpt eq (l ++ [z, x]) c
  | diff {l c : List α} {z x : α} : Cpt eq (l ++ [z]) c → eq x z = false → Cpt eq (l ++ [z, x]) (c ++ [x])
theorem Cpt.small {eq : α → α → Bool} {l : List α} (h : l.length < 2) : Cpt eq l l := by
  match l, h with
  | [], _ => exact Cpt.nil
  | [x], _ => exact Cpt.one x

theorem setMany_set (enc : α → List Value) (k : Nat) (hk : ∀ x, (enc x).length = k) (d : Array α) (i : Nat) (hi : i < d.size) (x : α) : setMany (flatK enc k d) (i * k) (enc x) = flatK enc k (d.setIfInBounds i x) := by
  refine ext_get! (by simp) fun t ht => ?_
  have ht' : t < d.size * k := by simpa using ht
  have k0 : 0 < k := by
    rcases Nat.eq_zero_or_pos k with h | h
    · subst h
      simp at ht'
    · exact h
  have htd : t / k < d.size := Nat.div_lt_of_lt_mul (by rw [Nat.mul_comm]; exact ht')
  rw [get_setMany _ _ _ t (by simpa using ht'), get_flatK _ _ _ t ht', get_flatK _ _ _ t (by simpa using ht'), hk]
  have m : ∀ q, t / k = q → t - q * k = t % k := fun q h => by subst h; rw [Nat.mod_eq_sub_div_mul]
  by_cases a : t / k = i
  · rw [if_pos ((blk_iff k i t k0).2 a), m i a, a]
    have : (d.setIfInBounds i x)[i]! = x := by simp [hi]
    rw [this]
  · rw [if_neg (fun h => a ((blk_iff k i t k0).1 h))]
    have : (d.setIfInBounds i x)[t / k]! = d[t / k]! := by
      rw [getElem!_pos (d.setIfInBounds i x) (t / k) (by simpa using htd), getElem!_pos d (t / k) htd, Array.getElem_setIfInBounds]
      rw [if_neg (fun e => a e.symm)]
    rw [this]
section

variable {P : Program} {enc : α → List Value} {k : Nat} {w0 W : World} {blk off : Nat} {dk d0 : Array α}

theorem swk_set (h : SWK enc k w0 blk off dk W) (R : RowK enc k w0 blk off d0) (i : Nat) (hi : i < dk.size) (x : α) : SWK enc k w0 blk off (dk.setIfInBounds i x) (W.setCells blk (off + i * k) (enc x)) := by
  obtain ⟨n, os, rfl⟩ := h
  refine ⟨n, os, ?_⟩
  unfold sortWorldK
  rw [setCells_grow os blk _ _ _ (by rw [size_putRowK]; exact R.hblk)]
  congr 1
  unfold putRowK
  rw [setCells_putRow _ _ _ _ _ _ (by rw [R.hk, size_flatK]; exact rowK_bnd dk k i hi), setMany_set enc k R.hk dk i hi x]
theorem swk_st (h : SWK enc k w0 blk off dk W) (R : RowK enc k w0 blk off d0) (hs : dk.size = d0.size) (P : Program) (i : Nat) (hi : i < dk.size) (y : α) :
    Sem.run P (storeCells ⟨blk, off + i * k, none⟩ (enc y) 0) W = .ok () (W.setCells blk (off + i * k) (enc y)) :=
  stores_of_holds P (h.holds R.hblk R.hH hs) (i * k) _ (by rw [R.hk, size_flatK]; exact rowK_bnd dk k i hi) (R.h1 _)
theorem swk_grownBy (h : SWK enc k w0 blk off dk W) : w0.grownBy W (some blk) := by
  obtain ⟨n, os, rfl⟩ := h
  unfold sortWorldK putRowK putRow mapBlock
  refine ⟨rfl, rfl, rfl, ?_, fun j hj hne => ?_⟩
  · simp [grow, Sort.ahead]
  · have hne' : blk ≠ j := fun e => hne (by rw [e])
    simp only [grow, Sort.ahead]
    rw [Array.getElem?_append_left (by simpa using hj), Array.getElem?_modify, if_neg hne']
/-- the first elements of a row -/
def PreK (enc : α → List Value) (W : World) (blk off k : Nat) (C : List α) : Prop := ∀ (i : Nat) (hi : i < C.length) (j : Nat) (u : Value), (enc C[i])[j]? = some u → W.cell? ⟨blk, off + i * k + j, none⟩ = some u ∧ W.frozen? ⟨blk, off + i * k + j, none⟩ = false
theorem swk_preK (h : SWK enc k w0 blk off dk W) (R : RowK enc k w0 blk off d0) (hs : dk.size = d0.size) {C J : List α} (hl : dk.toList = C ++ J) : PreK enc W blk off k C := by
  intro i hi j u hu
  have hH := h.holds R.hblk R.hH hs
  have hsz : dk.size = C.length + J.length := by rw [← Array.length_toList, hl]; simp
  have hid : i < dk.size := by omega
  have hj : j < k := by rw [← R.hk C[i]]; exact (List.getElem?_eq_some_iff.1 hu).1
  have hx : dk[i]! = C[i] := by
    rw [getElem!_pos dk i hid, ← Array.getElem_toList]
    simp only [hl]
    rw [List.getElem_append_left hi]
  obtain ⟨h1, h2⟩ := HoldsK.cell hH hid hj
  rw [hx] at h1
  refine ⟨?_, h2⟩
  rw [h1]
  obtain ⟨hj', e⟩ := List.getElem?_eq_some_iff.1 hu
  rw [getElem!_pos _ j hj', e]
theorem PreK.tail {C : List α} (h : PreK enc W blk off k C) (hk : ∀ x, (enc x).length = k) (vs : List Value) : PreK enc (W.setCells blk (off + C.length * k) vs) blk off k C := by
  intro i hi j u hu
  obtain ⟨h1, h2⟩ := h i hi j u hu
  have hj : j < k := by rw [← hk C[i]]; exact (List.getElem?_eq_some_iff.1 hu).1
  have hb : i * k + k ≤ C.length * k := by
    have := Nat.mul_le_mul_right k (show i + 1 ≤ C.length from hi)
    rwa [Nat.add_mul, Nat.one_mul] at this
  refine ⟨?_, by rw [World.frozen?_setCells]; exact h2⟩
  rw [World.cell?_setCells_out blk _ _ _ _ (fun _ _ => Or.inl (by show off + i * k + j < off + C.length * k; omega))]
  exact h1
theorem grownBy_cells {w w' : World} {blk : Nat} (h : w.grownBy w' (some blk)) (o : Nat) (vs : List Value) : w.grownBy (w'.setCells blk o vs) (some blk) := by
  induction vs generalizing w' o with
  | nil => exact h
  | cons v r ih =>
    rw [World.setCells]
    refine ih (w' := w'.setCell ⟨blk, o, none⟩ v) (o := o + 1) ⟨h.os, h.tape, h.output, by simp [World.setCell]; exact h.size, fun j hj hne => ?_⟩
    rw [Below.heap_setCell _ _ _ _ (fun e => hne (by rw [e]))]
    exact h.block j hj hne
/-- clear of elements of k cells -/
theorem run_clear_k (n : Nat) (w : World) (t e ty : TypeId) (z : Value) (ht : P.underlying t = some (.slice e)) (hv : ∀ w, (zeroValue e).run P w = .ok z w) (hz : z.cells.size = k) (h1 : ∀ v ∈ (Builtin.zeroCells z.cells n).toList, v.oneCell' = true) (b o c : Nat) (hn : 0 < n)
    (hl : (Builtin.zeroCells z.cells n).size = n * k)
    (hc : ∀ j, j < n * k → (w.cell? ⟨b, o + j, none⟩).isSome = true) (hf : ∀ j, j < n * k → w.frozen? ⟨b, o + j, none⟩ = false) :
    (Builtin.clear_ #[t] ty #[.slice (some ⟨b, o, none⟩) n c]).run P w = .ok (.tuple #[]) (w.setCells b o (Builtin.zeroCells z.cells n).toList) := by
  have hst := run_storeCells_cells (P := P) b o (Builtin.zeroCells z.cells n).toList 0 w (by simpa [hl] using hc) (by simpa [hl] using hf) h1
  simp only [Nat.add_zero] at hst
  obtain ⟨m, rfl⟩ : ∃ m, n = m + 1 := ⟨n - 1, by omega⟩
  simp [Builtin.clear_, run_underlying ht, hv, hst]
end


/-- the state of CompactFunc's second loop: what is kept, what lies between, what is still to come -/
structure CSt (eq : α → α → Bool) (L : List α) (p kk : Nat) (dk : Array α) (z : α) : Prop where
  ex : ∃ (Pre C J R : List α), L = Pre ++ [z] ++ R ∧ Pre.length + 1 = p ∧ C.length = kk ∧ dk.toList = C ++ (J ++ [z] ++ R) ∧ C.length + J.length = Pre.length ∧ Cpt eq (Pre ++ [z]) C
theorem CSt.bnd {eq : α → α → Bool} {L : List α} {p kk : Nat} {dk : Array α} {z : α} (h : CSt eq L p kk dk z) : kk < p ∧ p ≤ L.length ∧ dk.size = L.length ∧ dk[p - 1]! = z := by
  obtain ⟨Pre, C, J, R, h1, h2, h3, h4, h5, h6⟩ := h.ex
  have hs : dk.size = C.length + (J.length + 1 + R.length) := by rw [← Array.length_toList, h4]; simp only [List.length_append, List.length_singleton]
  refine ⟨by omega, by rw [h1]; simp; omega, by rw [hs, h1, List.length_append, List.length_append, List.length_singleton]; omega, ?_⟩
  exact lget (P := C ++ J) (Q := R) (by rw [h4]; simp) (by simp; omega)
theorem CSt.next {eq : α → α → Bool} {L : List α} {p kk : Nat} {dk : Array α} {z x : α} (h : CSt eq L p kk dk z) (hp : p < L.length) (hx : dk[p]! = x) :
    (eq x z = true → CSt eq L (p + 1) kk dk x) ∧ (eq x z = false → CSt eq L (p + 1) (kk + 1) (dk.setIfInBounds kk x) x) := by
  obtain ⟨Pre, C, J, R, h1, h2, h3, h4, h5, h6⟩ := h.ex
  obtain ⟨y, R, rfl⟩ : ∃ y r, R = y :: r := by
    cases R with
    | nil => rw [h1] at hp; simp at hp; omega
    | cons y r => exact ⟨y, r, rfl⟩
  have hy : dk[p]! = y := lget (P := C ++ (J ++ [z])) (Q := R) (by rw [h4]; simp) (by simp; omega)
  have hxy : y = x := hy.symm.trans hx
  subst hxy
  constructor
  · intro he
    exact ⟨Pre ++ [z], C, J ++ [z], R, by rw [h1]; simp, by simp; omega, h3, by rw [h4]; simp, by simp; omega, by simpa using Cpt.same h6 he⟩
  · intro he
    have hset : (dk.setIfInBounds kk y).toList = (C ++ [y]) ++ ((J ++ [z]).tail ++ [y] ++ R) := by
      rw [Array.toList_setIfInBounds, h4]
      subst h3
      rw [List.set_append_right _ _ (Nat.le_refl _), Nat.sub_self]
      cases J with
      | nil => simp
      | cons j J => simp
    exact ⟨Pre ++ [z], C ++ [y], (J ++ [z]).tail, R, by rw [h1]; simp, by simp; omega, by simp; omega, hset, by simp; omega, by simpa using Cpt.diff h6 he⟩
theorem CSt.done {eq : α → α → Bool} {L : List α} {p kk : Nat} {dk : Array α} {z : α} (h : CSt eq L p kk dk z) (hp : ¬ p < L.length) : ∃ C J, C.length = kk ∧ dk.toList = C ++ J ∧ Cpt eq L C := by
  obtain ⟨Pre, C, J, R, h1, h2, h3, h4, h5, h6⟩ := h.ex
  have : R = [] := List.length_eq_zero_iff.1 (by rw [h1] at hp; simp at hp; omega)
  subst this
  exact ⟨C, J ++ [z] ++ [], h3, h4, by rw [h1]; simpa using h6⟩
theorem CSt.start {eq : α → α → Bool} {d : Array α} {k : Nat} (hk1 : 1 ≤ k) (hk : k < d.size) (h : Cpt eq (d.toList.take k) (d.toList.take k)) (he : eq d[k]! d[k - 1]! = true) : CSt eq d.toList (k + 1) k d d[k]! := by
  obtain ⟨P, R, hl, hp⟩ := split_at' (L := d.toList) (k := k) (by simp; omega)
  obtain ⟨x, R, rfl⟩ : ∃ y r, R = y :: r := by
    cases R with
    | nil => have := congrArg List.length hl; simp at this; omega
    | cons y r => exact ⟨y, r, rfl⟩
  have hx : d[k]! = x := lget hl hp.symm
  obtain ⟨P0, z, rfl, hp0⟩ := snoc_of (L := P) (n := k - 1) (by omega)
  have hz : d[k - 1]! = z := lget (P := P0) (Q := x :: R) (by rw [hl]; simp) hp0.symm
  rw [hx, hz] at he
  rw [hl, List.take_left' hp] at h
  rw [hx]
  exact ⟨P0 ++ [z], P0 ++ [z], [], R, by rw [hl]; simp, by omega, hp, by rw [hl]; simp, by simp, by simpa using Cpt.same h he⟩
theorem Cpt.step {eq : α → α → Bool} {d : Array α} {k : Nat} (hk1 : 1 ≤ k) (hk : k < d.size) (h : Cpt eq (d.toList.take k) (d.toList.take k)) (he : eq d[k]! d[k - 1]! = false) : Cpt eq (d.toList.take (k + 1)) (d.toList.take (k + 1)) := by
  obtain ⟨P, R, hl, hp⟩ := split_at' (L := d.toList) (k := k) (by simp; omega)
  obtain ⟨x, R, rfl⟩ : ∃ y r, R = y :: r := by
    cases R with
    | nil => have := congrArg List.length hl; simp at this; omega
    | cons y r => exact ⟨y, r, rfl⟩
  have hx : d[k]! = x := lget hl hp.symm
  obtain ⟨P0, z, rfl, hp0⟩ := snoc_of (L := P) (n := k - 1) (by omega)
  have hz : d[k - 1]! = z := lget (P := P0) (Q := x :: R) (by rw [hl]; simp) hp0.symm
  rw [hx, hz] at he
  rw [hl, List.take_left' hp] at h
  have e1 : d.toList.take (k + 1) = P0 ++ [z, x] := by
    rw [hl, show P0 ++ [z] ++ x :: R = (P0 ++ [z, x]) ++ R by simp]
    exact List.take_left' (by simp; omega)
  rw [e1]
  have := Cpt.diff h he
  simpa using this

set_option maxHeartbeats 4000000 in
set_option maxRecDepth 1000000 in
theorem compact_any (K : Nat) (zE : ∀ w, (Go.sizeOf 33).run Try.prog w = .ok K w) (enc : α → List Value) (eqf : α → α → Bool) (g : Nat) (cb : Array Value) (blk off cap : Nat) (d0 : Array α) (w0 : World)
    (R : RowK enc K w0 blk off d0) (eg : ∀ args w, (callFunc g args).run Try.prog w = .ok (.enter g args) w) (heq : ∀ x y w, Calls Try.prog g (#[.agg (enc x).toArray, .agg (enc y).toArray] ++ cb) w fun e w' => e = .returned (.bool (eqf x y)) ∧ ∃ q os, w' = grow (w.drewN q) os)
    (z : Value) (hz : ∀ w, (zeroValue 33).run Try.prog w = .ok z w) (hzs : z.cells.size = K) (hz1 : ∀ n, ∀ v ∈ (Builtin.zeroCells z.cells n).toList, v.oneCell' = true)
    (hsz : d0.size < 1099511627776) (hcap : d0.size ≤ cap) (hcm : cap ≤ 9223372036854775807) (d : Array α) (w : World) (hs : d.size = d0.size) (S : SWK enc K w0 blk off d w) :
    Calls Try.prog 65 #[.slice (some ⟨blk, off, none⟩) d0.size cap, .func (.func g) #[] cb] w fun e w' => ∃ C : List α, e = .returned (.slice (some ⟨blk, off, none⟩) C.length cap) ∧ Cpt eqf d.toList C ∧ PreK enc w' blk off K C ∧ w0.grownBy w' (some blk) := by
  have mixed : Try.prog.follows .mixedOrders = true := by kernel_rfl
  have aE := opAgg
  have HC : Aside (∀ x y w, Calls Try.prog g (#[.agg (enc x).toArray, .agg (enc y).toArray] ++ cb) w fun e w' => e = .returned (.bool (eqf x y)) ∧ ∃ q os, w' = grow (w.drewN q) os) := heq
  have HS := Lib.hid hs
  have S1 : Aside (SWK enc K w0 blk off d w) := S
  clear heq hs S
  have HCL : Hid (∀ (C J : List α) (dk : Array α) (W : World), dk.toList = C ++ J → dk.size = d0.size → C.length < dk.size → SWK enc K w0 blk off dk W →
      ∃ vs, ∀ (ty : TypeId) (c : Nat), (Builtin.clear_ #[53] ty #[.slice (some ⟨blk, off + C.length * K, none⟩) (d0.size - C.length) c]).run Try.prog W = .ok (.tuple #[]) (W.setCells blk (off + C.length * K) vs)) := Lib.hid (by
    intro C J dk W hl hd hlt hS
    have hH := hS.holds R.hblk R.hH hd
    have hin : ∀ j, j < (d0.size - C.length) * K → C.length * K + j < dk.size * K := fun j hj => by
      rw [Nat.sub_mul, ← hd] at hj
      omega
    have hl9 : (Builtin.zeroCells z.cells (d0.size - C.length)).size = (d0.size - C.length) * K := by simp [Builtin.zeroCells, hzs]
    refine ⟨_, fun ty c => run_clear_k (d0.size - C.length) W 53 33 ty z Try.underlying53 hz hzs (hz1 _) blk (off + C.length * K) c (by omega) hl9 (fun j hj => ?_) (fun j hj => ?_)⟩
    · have := (hH (C.length * K + j) (by rw [size_flatK]; exact hin j hj)).1
      rw [Nat.add_assoc, this]
      rfl
    · have := (hH (C.length * K + j) (by rw [size_flatK]; exact hin j hj)).2
      rw [Nat.add_assoc]
      exact this)
  clear hz hzs hz1
  obtain ⟨N, hN⟩ : ∃ N, d0.size = N := ⟨_, rfl⟩
  have HN := Lib.hid hN
  rw [hN] at hsz hcap HCL HS
  rw [hN]
  clear hN
  go_enter Try.func65, Try.ntmps65
  by_cases h2 : N < 2
  · have h2z : (N : Int) < 2 := by omega
    go_wp2
    go_ret
    refine ⟨d.toList, by rw [Array.length_toList, HS.out]; rfl, Cpt.small (by rw [Array.length_toList, HS.out]; exact h2), swk_preK S1.out R (HS.out.trans HN.out.symm) (J := []) (by simp), swk_grownBy S1.out⟩
  have h2z : ¬ (N : Int) < 2 := by omega
  go_wp2
  go_loopg [5] N (fun g1 s5 wr => ∃ k : Nat, 1 ≤ k ∧ k ≤ N ∧ N - k ≤ g1 ∧ s5 = .int .i64 k ∧ Aside (SWK enc K w0 blk off d wr) ∧ Hid (Cpt eqf (d.toList.take k) (d.toList.take k)))
  case atStart => exact ⟨1, by omega, by omega, by omega, rfl, S1, Lib.hid (Cpt.small (by simp; omega))⟩
  case round =>
    clear S1
    obtain ⟨k, hk1, hk, hg1, rfl, S1, HD⟩ := hrel
    by_cases hlt : k < N
    · have hltz : (k : Int) < (N : Int) := by omega
      --PH
      obtain ⟨kp, rfl⟩ : ∃ kp, k = kp + 1 := ⟨k - 1, by omega⟩
      have hwp : IntKind.i64.wrap (kp : Int) = (kp : Int) := by rw [IntKind.wrap_i64]; omega
      cases hL : eqf d[kp + 1]! d[kp]! with
      | false =>
        have ea1 : ((kp : Int) + 1).toNat = kp + 1 := by omega
        have pa1 : (0 : Int) ≤ (kp : Int) + 1 := by omega
        have ba1 : (kp : Int) + 1 < (N : Int) := by omega
        have ra1 : IntKind.i64.wrap ((kp : Int) + 1) = (kp : Int) + 1 := by rw [IntKind.wrap_i64] <;> omega
        have ec1 : ((kp : Int)).toNat = kp := by omega
        have pc1 : (0 : Int) ≤ (kp : Int) := by omega
        have bc1 : (kp : Int) < (N : Int) := by omega
        obtain ⟨x1, hx1⟩ : ∃ z9, z9 = d[kp + 1]! := ⟨_, rfl⟩
        obtain ⟨y1, hy1⟩ : ∃ z9, z9 = d[kp]! := ⟨_, rfl⟩
        have l1a := S1.out.ld R (HS.out.trans HN.out.symm) Try.prog (kp + 1) (by have := HS.out; omega)
        have l1b := S1.out.ld R (HS.out.trans HN.out.symm) Try.prog (kp) (by have := HS.out; omega)
        rw [← hx1] at l1a
        rw [← hy1] at l1b
        have hv1 : eqf x1 y1 = false := by rw [hx1, hy1]; exact hL
        have hc1 := fun (n : Nat) (os : Array Obj) => HC.out x1 y1 (grow (wr.drewN n) os)
        rw [hv1] at hc1
        clear hx1 hy1
        go_wp2_with fail
        go_quiet_grown (first | (go_at_fn g; refine Calls.grown_of (hc1 _ _)))
        have S2 : Aside (SWK enc K w0 blk off d (grow (wr.drewN nq) osq)) := S1.out.grown nq osq
        clear l1a l1b hc1 S1
        generalize grow (wr.drewN nq) osq = w2 at S2 ⊢
        clear nq osq
        go_wp2_with fail
        go_roundg (N - (kp + 1 + 1))
        case measure => omega
        case rel => exact ⟨kp + 1 + 1, by omega, by omega, Nat.le_refl _, by go_num, S2, Lib.hid (Cpt.step (by omega) (by rw [HS.out]; exact hlt) HD.out (by simpa using hL))⟩
      | true =>
        have ea1 : ((kp : Int) + 1).toNat = kp + 1 := by omega
        have pa1 : (0 : Int) ≤ (kp : Int) + 1 := by omega
        have ba1 : (kp : Int) + 1 < (N : Int) := by omega
        have ra1 : IntKind.i64.wrap ((kp : Int) + 1) = (kp : Int) + 1 := by rw [IntKind.wrap_i64] <;> omega
        have ec1 : ((kp : Int)).toNat = kp := by omega
        have pc1 : (0 : Int) ≤ (kp : Int) := by omega
        have bc1 : (kp : Int) < (N : Int) := by omega
        obtain ⟨x1, hx1⟩ : ∃ z9, z9 = d[kp + 1]! := ⟨_, rfl⟩
        obtain ⟨y1, hy1⟩ : ∃ z9, z9 = d[kp]! := ⟨_, rfl⟩
        have l1a := S1.out.ld R (HS.out.trans HN.out.symm) Try.prog (kp + 1) (by have := HS.out; omega)
        have l1b := S1.out.ld R (HS.out.trans HN.out.symm) Try.prog (kp) (by have := HS.out; omega)
        rw [← hx1] at l1a
        rw [← hy1] at l1b
        have hv1 : eqf x1 y1 = true := by rw [hx1, hy1]; exact hL
        have hc1 := fun (n : Nat) (os : Array Obj) => HC.out x1 y1 (grow (wr.drewN n) os)
        rw [hv1] at hc1
        clear hx1 hy1
        go_wp2_with fail
        go_quiet_grown (first | (go_at_fn g; refine Calls.grown_of (hc1 _ _)))
        have S2 : Aside (SWK enc K w0 blk off d (grow (wr.drewN nq) osq)) := S1.out.grown nq osq
        clear l1a l1b hc1 S1
        generalize grow (wr.drewN nq) osq = w2 at S2 ⊢
        clear nq osq
        have HST := Lib.hid (CSt.start (eq := eqf) (d := d) (k := kp + 1) (by omega) (by rw [HS.out]; exact hlt) HD.out (by simpa using hL))
        have hck : ¬ ((cap : Int) = (kp : Int) + 1) := by omega
        have hck2 : ¬ (cap = kp + 1) := by omega
        have n1 : ((N : Int) - ((kp : Int) + 1)).toNat = N - (kp + 1) := by omega
        have n2 : ((cap : Int) - ((kp : Int) + 1)).toNat = cap - (kp + 1) := by omega
        go_wp2_with fail
        obtain ⟨w3, hw3⟩ : ∃ x, x = w2 := ⟨_, rfl⟩
        obtain ⟨M, hM⟩ : ∃ M, N - (kp + 1) = M := ⟨_, rfl⟩
        have hMN : M + (kp + 1) = N := by omega
        rw [hM]
        obtain ⟨cp2, hcp2⟩ : ∃ x, cap - (kp + 1) = x := ⟨_, rfl⟩
        rw [hcp2]
        have HMN := Lib.hid hMN
        clear hw3 hM hcp2 n1 n2 ra1 ea1 pa1 ba1 ec1 pc1 bc1 hg1
        go_loopg [5, 7] M (fun g2 s5 s7 wr => ∃ (kk p : Nat) (dk : Array α) (zz : α), s5 = .int .i64 kk ∧ s7 = .int .i64 ((p : Int) + 1) ∧ p + 1 ≤ M ∧ M - p ≤ g2 + 1 ∧ kk < kp + 1 + p + 1 ∧ Hid (dk.size = N) ∧ Hid (CSt eqf d.toList (kp + 1 + p + 1) kk dk zz) ∧ Aside (SWK enc K w0 blk off dk wr))
        case atStart => exact ⟨kp + 1, 0, d, _, by go_num, rfl, by omega, by omega, by omega, HS, HST, S2⟩
        case round =>
          clear S2 HST
          obtain ⟨kk, p, dk, zz, rfl, rfl, hp1, hp2, hkk, dkS, HST, S1⟩ := hrel
          have hwq : IntKind.i64.wrap (p : Int) = (p : Int) := by rw [IntKind.wrap_i64]; omega
          have hLN : d.toList.length = N := by rw [Array.length_toList, HS.out]
          have HLN := Lib.hid hLN
          clear hLN
          by_cases hl2 : p + 1 < M
          · have hl2z : (p : Int) + 1 < (M : Int) := by omega
            have HNX := Lib.hid (fun x (hx : dk[kp + 1 + p + 1]! = x) => CSt.next HST.out (by rw [HLN.out]; omega) hx)
            have hzz : dk[kp + 1 + p]! = zz := by
              have h9 := (CSt.bnd HST.out).2.2.2
              rw [Nat.add_sub_cancel] at h9
              exact h9
            have HZZ := Lib.hid hzz
            clear hzz
            have o1 : off + (kp + 1 + p + 1) * K = off + (kp + 1) * K + (p + 1) * K := by rw [show kp + 1 + p + 1 = (kp + 1) + (p + 1) by omega, Nat.add_mul, Nat.add_assoc]
            have o2 : off + (kp + 1 + p) * K = off + (kp + 1) * K + p * K := by rw [Nat.add_mul, Nat.add_assoc]
            have O1 := Lib.hid o1
            have O2 := Lib.hid o2
            clear o1 o2
            cases hE : eqf dk[kp + 1 + p + 1]! dk[kp + 1 + p]! with
            | true =>
              have ea3 : ((p : Int) + 1).toNat = p + 1 := by omega
              have pa3 : (0 : Int) ≤ (p : Int) + 1 := by omega
              have ba3 : (p : Int) + 1 < (M : Int) := by omega
              have ra3 : IntKind.i64.wrap ((p : Int) + 1) = (p : Int) + 1 := by rw [IntKind.wrap_i64] <;> omega
              have ec3 : ((p : Int)).toNat = p := by omega
              have pc3 : (0 : Int) ≤ (p : Int) := by omega
              have bc3 : (p : Int) < (M : Int) := by omega
              obtain ⟨x3, hx3⟩ : ∃ z9, z9 = dk[kp + 1 + p + 1]! := ⟨_, rfl⟩
              obtain ⟨y3, hy3⟩ : ∃ z9, z9 = dk[kp + 1 + p]! := ⟨_, rfl⟩
              have l3a := S1.out.ld R (dkS.out.trans HN.out.symm) Try.prog (kp + 1 + p + 1) (by have := dkS.out; omega)
              have l3b := S1.out.ld R (dkS.out.trans HN.out.symm) Try.prog (kp + 1 + p) (by have := dkS.out; omega)
              rw [O1.out] at l3a
              rw [O2.out] at l3b
              rw [← hx3] at l3a
              rw [← hy3] at l3b
              have hv3 : eqf x3 y3 = true := by rw [hx3, hy3]; exact hE
              have hc3 := fun (n : Nat) (os : Array Obj) => HC.out x3 y3 (grow (wr.drewN n) os)
              rw [hv3] at hc3
              have HX3 := Lib.hid (hx3.trans rfl)
              have HY3 := Lib.hid hy3
              clear hx3 hy3
              go_wp2_with fail
              go_quiet_grown (first | (go_at_fn g; refine Calls.grown_of (hc3 _ _)))
              have S2 : Aside (SWK enc K w0 blk off dk (grow (wr.drewN nq) osq)) := S1.out.grown nq osq
              clear l3a l3b hc3 S1
              generalize grow (wr.drewN nq) osq = w4 at S2 ⊢
              clear nq osq
              go_wp2_with fail
              go_roundg (M - (p + 1) - 1)
              case measure => omega
              case rel => exact ⟨kk, p + 1, dk, x3, rfl, by go_num, by omega, by omega, by omega, dkS, Lib.hid ((HNX.out x3 HX3.out.symm).1 (by rw [← HZZ.out, ← HY3.out]; exact hv3)), S2⟩
            | false =>
              have ea3 : ((p : Int) + 1).toNat = p + 1 := by omega
              have pa3 : (0 : Int) ≤ (p : Int) + 1 := by omega
              have ba3 : (p : Int) + 1 < (M : Int) := by omega
              have ra3 : IntKind.i64.wrap ((p : Int) + 1) = (p : Int) + 1 := by rw [IntKind.wrap_i64] <;> omega
              have ec3 : ((p : Int)).toNat = p := by omega
              have pc3 : (0 : Int) ≤ (p : Int) := by omega
              have bc3 : (p : Int) < (M : Int) := by omega
              obtain ⟨x3, hx3⟩ : ∃ z9, z9 = dk[kp + 1 + p + 1]! := ⟨_, rfl⟩
              obtain ⟨y3, hy3⟩ : ∃ z9, z9 = dk[kp + 1 + p]! := ⟨_, rfl⟩
              have l3a := S1.out.ld R (dkS.out.trans HN.out.symm) Try.prog (kp + 1 + p + 1) (by have := dkS.out; omega)
              have l3b := S1.out.ld R (dkS.out.trans HN.out.symm) Try.prog (kp + 1 + p) (by have := dkS.out; omega)
              rw [O1.out] at l3a
              rw [O2.out] at l3b
              rw [← hx3] at l3a
              rw [← hy3] at l3b
              have hv3 : eqf x3 y3 = false := by rw [hx3, hy3]; exact hE
              have hc3 := fun (n : Nat) (os : Array Obj) => HC.out x3 y3 (grow (wr.drewN n) os)
              rw [hv3] at hc3
              have HX3 := Lib.hid (hx3.trans rfl)
              have HY3 := Lib.hid hy3
              clear hx3 hy3
              go_wp2_with fail
              go_quiet_grown (first | (go_at_fn g; refine Calls.grown_of (hc3 _ _)))
              have S2 : Aside (SWK enc K w0 blk off dk (grow (wr.drewN nq) osq)) := S1.out.grown nq osq
              clear l3a l3b hc3 S1
              generalize grow (wr.drewN nq) osq = w4 at S2 ⊢
              clear nq osq
              have hkb : kk < dk.size := by have := dkS.out; omega
              have ek4 : ((kk : Int)).toNat = kk := by omega
              have pk4 : (0 : Int) ≤ (kk : Int) := by omega
              have bk4 : (kk : Int) < (N : Int) := by omega
              have l4 := S2.out.load R (dkS.out.trans HN.out.symm) Try.prog (kp + 1 + p + 1) (by have := dkS.out; omega)
              rw [O1.out, ← HX3.out] at l4
              have s4 := swk_st S2.out R (dkS.out.trans HN.out.symm) Try.prog kk hkb x3
              have S3 : Aside (SWK enc K w0 blk off (dk.setIfInBounds kk x3) (w4.setCells blk (off + kk * K) (enc x3))) := swk_set S2.out R kk hkb x3
              have n4 : (enc x3).length = K := R.hk _
              have dkS3 : Hid ((dk.setIfInBounds kk x3).size = N) := Lib.hid (by rw [Array.size_setIfInBounds]; exact dkS.out)
              have HNX2 := Lib.hid ((HNX.out x3 HX3.out.symm).2 (by rw [← HZZ.out, ← HY3.out]; exact hv3))
              generalize enc x3 = c4 at S3 l4 s4 n4
              clear S2 HNX HST
              go_wp2_with fail
              generalize w4.setCells blk (off + kk * K) c4 = w5 at S3 ⊢
              go_wp2_with fail
              go_roundg (M - (p + 1) - 1)
              case measure => omega
              case rel => exact ⟨kk + 1, p + 1, _, x3, by go_num, by go_num, by omega, by omega, by omega, dkS3, HNX2, S3⟩
          · have hl2z : ¬ (p : Int) + 1 < (M : Int) := by omega
            obtain ⟨C, J, hC1, hC2, hC3⟩ := CSt.done HST.out (by rw [HLN.out]; omega)
            have HC3 := Lib.hid hC3
            have HC2 := Lib.hid hC2
            have hCl : C.length < N := by omega
            obtain ⟨vs, hcl⟩ := HCL.out C J dk wr hC2 dkS.out (by have := dkS.out; omega) S1.out
            have S3 : Aside (PreK enc (wr.setCells blk (off + C.length * K) vs) blk off K C ∧ w0.grownBy (wr.setCells blk (off + C.length * K) vs) (some blk)) := ⟨(swk_preK S1.out R (dkS.out.trans HN.out.symm) hC2).tail R.hk vs, grownBy_cells (swk_grownBy S1.out) _ _⟩
            clear hC2 hC3 HC2 HST S1
            rw [hC1] at hcl S3 hCl
            have HQ := Lib.hid hC1
            clear hC1
            have hkq : ¬ ((cap : Int) = (kk : Int)) := by omega
            have hkq2 : ¬ (cap = kk) := by omega
            have m1 : ((N : Int) - (kk : Int)).toNat = N - kk := by omega
            have m2 : ((cap : Int) - (kk : Int)).toNat = cap - kk := by omega
            go_wp2
            go_ret
            exact ⟨C, by rw [HQ.out]; rfl, HC3.out, S3.out.1, S3.out.2⟩
      --HP
    · have hltz : ¬ (k : Int) < (N : Int) := by omega
      have hkN : k = N := by omega
      go_wp2
      go_ret
      refine ⟨d.toList, by rw [Array.length_toList, HS.out]; rfl, ?_, swk_preK S1.out R (HS.out.trans HN.out.symm) (J := []) (by simp), swk_grownBy S1.out⟩
      have h9 := HD.out
      rw [hkN, List.take_of_length_le (by rw [Array.length_toList, HS.out]; exact Nat.le_refl _)] at h9
      exact h9
end Go.Proofs.Ytabkgoandfpclaa
