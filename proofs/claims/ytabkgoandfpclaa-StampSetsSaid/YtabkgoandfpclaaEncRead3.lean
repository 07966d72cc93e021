
/- What the Reader's Text, Id and Four read. -/

import Derived.Test.YtabkgoandfpclaaEncRead2

import Derived.Laws.ResultCell

import Derived.Laws.IdiomCopy

import Derived.Laws.CopyRow

import Derived.Lib.SlBuf

namespace Go.Proofs.Ytabkgoandfpclaa

set_option linter.unusedVariables false

set_option linter.unusedSimpArgs false

open Go.RowKit

theorem numS_le (most : Int) : ∀ (f i acc : Nat) (bs : List UInt8) (n : Nat) (r : List UInt8), numS most f i acc bs = some (n, r) → n ≤ 4611686018427387904 ∧ (n : Int) ≤ most ∧ r.length < bs.length
  | 0, _, _, _, _, _, h => by simp [numS] at h
  | _ + 1, _, _, [], _, _, h => by simp [numS] at h
  | f + 1, i, acc, c :: bs, n, r, h => by
    unfold numS at h
    split at h
    · have := numS_le most f _ _ bs n r h
      simp only [List.length_cons]
      omega
    · split at h
      · cases h
      · rename_i h1
        cases h
        simp only [List.length_cons]
        omega
theorem getNum_le (st : St) (most : Int) : (getNum st most).1 ≤ 4611686018427387904 := by
  unfold getNum
  split
  · simp
  · split
    · simp
    · rename_i h
      exact (numS_le most _ _ _ _ _ _ h).1

theorem getN_yes {bs : List UInt8} {n : Nat} (h : n ≤ bs.length) : getN (some bs) n = (bs.take n, some (bs.drop n)) := by simp [getN, h]
theorem getN_no {st : St} {n : Nat} (h : ∀ bs, st = some bs → bs.length < n) : getN st n = ([], none) := by
  cases st with
  | none => rfl
  | some bs => have := h bs rfl; simp [getN]; omega
theorem st_cases (st : St) (n : Nat) : (∃ bs, st = some bs ∧ n ≤ bs.length) ∨ (∀ bs, st = some bs → bs.length < n) := by
  cases st with
  | none => exact .inr fun bs h => by cases h
  | some bs =>
    by_cases h : n ≤ bs.length
    · exact .inl ⟨bs, rfl, h⟩
    · exact .inr fun b h' => by cases h'; omega

theorem ret_str {a b : List UInt8} (h : a = b) : Ending.returned (.string ⟨a.toArray⟩) = .returned (.string ⟨b.toArray⟩) := by rw [h]

set_option maxHeartbeats 1000000 in
theorem rdtext_any (g : Nat) (st : St) (most : Int) (w : World) (h : RdrM w g st) :
    Calls Try.prog 54 #[.pointer (some ⟨g, 0, none⟩), .int .i64 most] w fun e w' => e = .returned (.string ⟨(getText st most).1.toArray⟩) ∧ RdrM w' g (getText st most).2 ∧ w.grownBy w' (some g) := by
  have hn := rdnum_any g st most w h
  have hle := getNum_le st most
  have hcases := st_cases (getNum st most).2 (getNum st most).1
  have hT : getText st most = getN (getNum st most).2 (getNum st most).1 := rfl
  generalize getText st most = T at *
  generalize getNum st most = R at *
  obtain ⟨n, st2⟩ := R
  dsimp only at hn hle hcases hT
  have HN := Lib.hid hn
  clear hn
  go_enter Try.func54, Try.ntmps54
  rcases hcases with ⟨bs, rfl, hlen⟩ | hno
  · rw [getN_yes hlen] at hT
    have HT := Lib.hid hT
    clear hT
    go_wp2_with fail
    refine HN.out.mono ?_
    rintro e w1 ⟨rfl, h1, hg1⟩
    go_wp2_with fail
    refine (take_yes g n bs w1 h1 hlen).mono ?_
    rintro e w2 ⟨⟨A2, c2, rfl, hr2, _⟩, h2, hg2⟩
    have hcv := run_str_of_bytes (P := Try.prog) (src := 36) (dst := 9) (e := 5) n c2 (by rw [List.length_take]; omega) Try.underlying36 Try.underlying5 Try.underlying9 hr2
    go_wp2_with fail
    go_ret
    have := HT.out
    subst this
    exact ⟨rfl, h2, grown_trans1 hg1 hg2⟩
  · rw [getN_no hno] at hT
    have HT := Lib.hid hT
    have ht := fun w1 h1 => take_no g n st2 w1 h1 (by omega) hno
    have Ht := Lib.hid ht
    clear hT hno ht
    go_wp2_with fail
    refine HN.out.mono ?_
    rintro e w1 ⟨rfl, h1, hg1⟩
    go_wp2_with fail
    refine (Ht.out w1 h1).mono ?_
    rintro e w2 ⟨rfl, h2, hg2⟩
    have hcv := run_str_of_bytes (P := Try.prog) (w := w2) (A := none) (bs := []) (src := 36) (dst := 9) (e := 5) 0 0 rfl Try.underlying36 Try.underlying5 Try.underlying9 Rd.nil
    go_wp2_with fail
    go_ret
    have := HT.out
    subst this
    exact ⟨rfl, h2, grown_trans1 hg1 hg2⟩

theorem or4 (a b c d : UInt8) : bits .or .u32 (bits .or .u32 (bits .or .u32 ((a.toNat : Int) % 4294967296) ((b.toNat : Int) % 4294967296 * 256 % 4294967296)) ((c.toNat : Int) % 4294967296 * 65536 % 4294967296)) ((d.toNat : Int) % 4294967296 * 16777216 % 4294967296) = ((four [a, b, c, d] : Nat) : Int) := by
  have ha := a.toNat_lt
  have hb := b.toNat_lt
  have hc := c.toNat_lt
  have hd := d.toNat_lt
  have e0 : ((a.toNat : Int) % 4294967296) = (a.toNat : Int) := by omega
  have e1 : ((b.toNat : Int) % 4294967296 * 256 % 4294967296) = ((b.toNat * 256 : Nat) : Int) := by omega
  have e2 : ((c.toNat : Int) % 4294967296 * 65536 % 4294967296) = ((c.toNat * 65536 : Nat) : Int) := by omega
  have e3 : ((d.toNat : Int) % 4294967296 * 16777216 % 4294967296) = ((d.toNat * 16777216 : Nat) : Int) := by omega
  rw [e0, e1, u32_or_nat _ _ (by omega) (by omega), Nat.or_comm, nat_join 8 _ _ (by omega) (by omega)]
  rw [e2, u32_or_nat _ _ (by omega) (by omega), Nat.or_comm, nat_join 16 _ _ (by omega) (by omega)]
  rw [e3, u32_or_nat _ _ (by omega) (by omega), Nat.or_comm, nat_join 24 _ _ (by omega) (by omega)]
  simp only [four]
  congr 1
  omega

/-! ### an array of the call's own, written whole -/

/-- 'copy(id[:], b)' of as many bytes as the array has -/
theorem run_copy_whole {P : Program} {w : World} {dT sT ty elem : TypeId} {g n c sc : Nat} {A : Option Addr} {old : Array Value} {t : TypeId} {bs : List UInt8} (hu : P.underlying dT = some (.slice elem)) (hs : (P.info? elem).map (·.size) = some 1)
    (hg : w.heap[g]? = some (.cells old t (0, 0))) (hn : bs.length = n) (ho : old.size = n) (hr : Rd w A (b8s bs)) (hp : 0 < n) :
    (Builtin.copy_ #[dT, sT] ty #[.slice (some ⟨g, 0, none⟩) n c, .slice A n sc]).run P w = .ok (goInt n) (w.setRow g (b8s bs).toArray) := by
  obtain ⟨b, o, rfl, hc⟩ := hr.all (by rw [b8s_length]; omega)
  have h := run_copy_row (P := P) w dT sT ty elem g 0 n c ⟨b, o, none⟩ n sc old t (b8s bs) hu hs hg (by rw [b8s_length, hn]; simp) (fun j v hv => by rw [Addr.add_lit]; exact hc j v hv) (by rw [b8s_length]; omega) (b8s_one' bs)
  rw [h, b8s_length, hn]
  congr 2
  have e : old.toList.drop (0 + n) = [] := List.drop_of_length_le (by rw [Array.length_toList]; omega)
  rw [e]
  simp


/-- a reader stays while a block above its bytes is written -/
theorem RdrB.far {w w' : World} {g K B : Nat} {bs : List UInt8} (h : RdrB w g K bs) (hne : g ≠ B) (hK : K ≤ B) (hg : w.grownBy w' (some B)) : RdrB w' g K bs := by
  have hlt := h.m.lt
  obtain ⟨A, n, c, hh, h1, h2, h3, h4, h5⟩ := h
  refine ⟨A, n, c, (hg.block g hlt (by simpa using hne)).trans hh, h1, h2, h3, ?_, h5⟩
  by_cases hb : bs = []
  · subst hb; exact Rd.nil
  · exact h4.grown hg (fun ad hA e => by have := h5 hb ad hA; have : ad.block = B := by simpa using e
                                         omega)
theorem RdrM.far_none {w w' : World} {g B : Nat} (h : RdrM w g none) (hne : g ≠ B) (hg : w.grownBy w' (some B)) : RdrM w' g none :=
  (hg.block g h.lt (by simpa using hne)).trans h

theorem RdrB.below {w w' : World} {g K : Nat} {bs : List UInt8} (h : RdrB w g K bs) (hb : Below w.heap.size w w') : RdrB w' g K bs := by
  have hlt := h.m.lt
  obtain ⟨A, n, c, hh, h1, h2, h3, h4, h5⟩ := h
  exact ⟨A, n, c, (hb.block g hlt).trans hh, h1, h2, h3, h4.below hb, h5⟩

theorem getId_len (st : St) : (getId st).1.length = 32 := by
  rcases st_cases st 32 with ⟨bs, rfl, h⟩ | h
  · simp only [getId, getN_yes h, padId]
    split
    · simp
    · rw [List.length_take]; omega
  · simp [getId, getN_no h, padId]

theorem info_id : (Try.prog.info? 30).map (·.size) = some 32 := by kernel_rfl
theorem info_u8s : (Try.prog.info? 5).map (·.size) = some 1 := by kernel_rfl

set_option maxRecDepth 100000 in
set_option maxHeartbeats 1000000 in
theorem rdid_any (g : Nat) (st : St) (w : World) (h : RdrM w g st) :
    Calls Try.prog 55 #[.pointer (some ⟨g, 0, none⟩)] w fun e w' => e = .returned (.agg (b8s (getId st).1).toArray) ∧ RdrM w' g (getId st).2 ∧ w.grownBy w' (some g) := by
  have hlt := h.lt
  obtain ⟨W0, hW0⟩ : ∃ W0 : World, W0 = w.alloc (.cells (b8s zeros32).toArray 30) := ⟨_, rfl⟩
  have hrow : W0.heap[w.heap.size]? = some (.cells (b8s zeros32).toArray 30 (0, 0)) := by rw [hW0]; exact heap_alloc_new w _
  have hB : Below w.heap.size w W0 := by rw [hW0]; exact (Below.refl _ _).alloc (Nat.le_refl _) _
  have hW1 : w.alloc (.cells #[.int .u8 0, .int .u8 0, .int .u8 0, .int .u8 0, .int .u8 0, .int .u8 0, .int .u8 0, .int .u8 0, .int .u8 0, .int .u8 0, .int .u8 0, .int .u8 0, .int .u8 0, .int .u8 0, .int .u8 0, .int .u8 0, .int .u8 0, .int .u8 0, .int .u8 0, .int .u8 0, .int .u8 0, .int .u8 0, .int .u8 0, .int .u8 0, .int .u8 0, .int .u8 0, .int .u8 0, .int .u8 0, .int .u8 0, .int .u8 0, .int .u8 0, .int .u8 0] 30) = W0 := hW0.symm
  have hcases := st_cases st 32
  have hT : getId st = (padId (getN st 32).1, (getN st 32).2) := rfl
  have hlen := getId_len st
  generalize getId st = T at *
  obtain ⟨idv, st2⟩ := T
  dsimp only at hT hlen ⊢
  have HT := Lib.hid hT
  have HL := Lib.hid hlen
  clear hW0 hT hlen
  go_enter Try.func55, Try.ntmps55
  go_wp2_with fail
  clear hW1
  rcases hcases with ⟨bs, rfl, hle⟩ | hno
  · have hR : RdrB W0 g w.heap.size bs := h.b.below hB
    refine wp_region_sched (fun w' => True) [(true, 0), (true, 1), (false, 2), (false, 3)] (by kernel_rfl) (by kernel_rfl) rfl (by kernel_rfl) trivial ?_
    (repeat (first | (refine wpS_pass _ rfl (by rfl) ?_; simp only [Act.put, List.getElem_toArray, List.getElem_cons_zero, List.getElem_cons_succ, List.setIfInBounds_toArray, List.set_cons_zero, List.set_cons_succ]) | (refine wpS_take _ ?_ rfl (by rfl) ?_ ?_; rotate_left; (focus (intro w' hS'; (try dsimp only at hS'); (repeat (have hS1 := hS'.1; replace hS' := hS'.2)); go_simp; (try with_reducible rfl); done)); simp only [Act.put, List.getElem_toArray, List.getElem_cons_zero, List.getElem_cons_succ, List.setIfInBounds_toArray, List.set_cons_zero, List.set_cons_succ])))
    refine wpS_do _ rfl (by rfl) (fun K hK => ?_)
    go_simp
    refine (take_yesB g 32 w.heap.size bs W0.drew hR hle).mono ?_
    rintro e w2 ⟨⟨A2, c2, rfl, hr2, _⟩, h2, hg2⟩
    refine hK.out _ _ trivial (fun _ => ?_)
    clear hK K
    have hrow2 : w2.heap[w.heap.size]? = some (.cells (b8s zeros32).toArray 30 (0, 0)) := (hg2.block _ (Array.getElem?_eq_some_iff.1 hrow).1 (by simp; omega)).trans hrow
    have hid2 : bs.take 32 = idv ∧ st2 = some (bs.drop 32) := by
      have := HT.out
      rw [getN_yes hle] at this
      simp only [Prod.mk.injEq] at this
      rw [this.1, this.2]
      refine ⟨?_, rfl⟩
      unfold padId
      rw [if_neg (by intro h0; have h1 := congrArg List.length h0; rw [List.length_take, List.length_nil] at h1; omega)]
    obtain ⟨e1, rfl⟩ := hid2
    rw [e1] at hr2
    have hcopy := fun ty => run_copy_whole (P := Try.prog) (ty := ty) (dT := 36) (sT := 36) (c := 32) (sc := c2) Try.underlying36 info_u8s hrow2 (n := 32) (bs := idv) HL.out rfl hr2 (by omega)
    have HC := Lib.hid hcopy
    have hrow3 : (w2.setRow w.heap.size (b8s idv).toArray).heap[w.heap.size]? = some (.cells (b8s idv).toArray 30 (0, 0)) := setRow_heap _ _ _ _ _ _ hrow2
    have hg3 : w2.grownBy (w2.setRow w.heap.size (b8s idv).toArray) (some w.heap.size) := ⟨rfl, rfl, rfl, by simp, fun k _ hk => setRow_other _ _ _ _ (by simpa using hk)⟩
    have hend : ∀ w4, (w2.setRow w.heap.size (b8s idv).toArray).grownBy w4 (some w.heap.size) → RdrM w4 g (some (bs.drop 32)) ∧ w.grownBy w4 (some g) := by
      intro w4 hg4
      have h24 := grown_trans1 hg3 hg4
      refine ⟨(h2.far (by omega) (Nat.le_refl _) h24).m, ?_⟩
      exact ⟨h24.os.trans (hg2.os.trans hB.os), h24.tape.trans (hg2.tape.trans hB.tape), h24.output.trans (hg2.output.trans hB.output), Nat.le_trans hB.size (Nat.le_trans hg2.size h24.size),
        fun k hk hne => (h24.block k (Nat.lt_of_lt_of_le (Nat.lt_of_lt_of_le hk hB.size) hg2.size) (by simp; omega)).trans ((hg2.block k (Nat.lt_of_lt_of_le hk hB.size) hne).trans (hB.block k hk))⟩
    generalize (w2.setRow w.heap.size (b8s idv).toArray) = w3 at *
    clear hrow2 hg3 h2 hg2 hr2 hR h hrow
    refine wpS_do _ rfl (by rfl) (fun K hK => ?_)
    refine Lib.wp_copy_run _ _ _ 36 36 rfl _ _ rfl rfl (HC.out _) ?_
    refine hK.out _ _ trivial (fun _ => ?_)
    clear hK K HC
    go_simp
    refine wpS_done ?_
    have Hend := Lib.hid hend
    have Hrow3 := Lib.hid hrow3
    clear hend hrow3
    go_wp2_with (first
      | (refine wpList_load_mid rfl _ _ rfl w.heap.size 0 rfl (b8s idv) _ (range_of_row Hrow3.out) Try.underlying30 rfl (by rw [b8s_length, HL.out]; exact info_id) ?_)
      | (refine wpList_store_mid rfl _ _ _ rfl w.heap.size 0 (b8s idv).toArray rfl rfl (there_of_row Hrow3.out) (by rw [List.size_toArray, b8s_length, HL.out]; exact info_id) (all_oneCell_toArray (b8s_one' _)) ?_))
    have hend := Hend.out _ (setCells_grown w.heap.size (b8s idv) 0 _)
    have hres := World.rangeAt_setCells_same _ w.heap.size 0 (b8s idv) (by have := there_of_row Hrow3.out; simpa using this)
    refine bodyPost_ret (v := .agg (b8s idv).toArray) ?_ rfl ⟨rfl, hend.1, hend.2⟩
    have hl := run_loadVar_mid (P := Try.prog) _ w.heap.size 0 30 (b8s idv) _ hres Try.underlying30 rfl (by rw [b8s_length, HL.out]; exact info_id)
    simp [results, Try.results55, asAddr, hl, Act.put]
  · have hM : RdrM W0 g st := h.below hB
    have ht := take_no g 32 st W0.drew hM (by omega) hno
    have Ht := Lib.hid ht
    have hid2 : zeros32 = idv ∧ st2 = none := by
      have := HT.out
      rw [getN_no hno] at this
      simp only [Prod.mk.injEq] at this
      exact ⟨this.1.symm, this.2⟩
    obtain ⟨e1, rfl⟩ := hid2
    rw [e1] at hrow
    clear ht hno
    refine wp_region_sched (fun w' => True) [(true, 0), (true, 1), (false, 2), (false, 3)] (by kernel_rfl) (by kernel_rfl) rfl (by kernel_rfl) trivial ?_
    (repeat (first | (refine wpS_pass _ rfl (by rfl) ?_; simp only [Act.put, List.getElem_toArray, List.getElem_cons_zero, List.getElem_cons_succ, List.setIfInBounds_toArray, List.set_cons_zero, List.set_cons_succ]) | (refine wpS_take _ ?_ rfl (by rfl) ?_ ?_; rotate_left; (focus (intro w' hS'; (try dsimp only at hS'); (repeat (have hS1 := hS'.1; replace hS' := hS'.2)); go_simp; (try with_reducible rfl); done)); simp only [Act.put, List.getElem_toArray, List.getElem_cons_zero, List.getElem_cons_succ, List.setIfInBounds_toArray, List.set_cons_zero, List.set_cons_succ])))
    refine wpS_do _ rfl (by rfl) (fun K hK => ?_)
    go_simp
    refine Ht.out.mono ?_
    rintro e w2 ⟨rfl, h2, hg2⟩
    refine hK.out _ _ trivial (fun _ => ?_)
    clear hK K
    have hrow3 : w2.heap[w.heap.size]? = some (.cells (b8s idv).toArray 30 (0, 0)) := (hg2.block _ (Array.getElem?_eq_some_iff.1 hrow).1 (by simp; omega)).trans hrow
    have hend : ∀ w4, w2.grownBy w4 (some w.heap.size) → RdrM w4 g none ∧ w.grownBy w4 (some g) := by
      intro w4 h24
      refine ⟨h2.far_none (by omega) h24, ?_⟩
      exact ⟨h24.os.trans (hg2.os.trans hB.os), h24.tape.trans (hg2.tape.trans hB.tape), h24.output.trans (hg2.output.trans hB.output), Nat.le_trans hB.size (Nat.le_trans hg2.size h24.size),
        fun k hk hne => (h24.block k (Nat.lt_of_lt_of_le (Nat.lt_of_lt_of_le hk hB.size) hg2.size) (by simp; omega)).trans ((hg2.block k (Nat.lt_of_lt_of_le hk hB.size) hne).trans (hB.block k hk))⟩
    clear h2 hg2 hM h hrow
    refine wpS_do _ rfl (by rfl) (fun K hK => ?_)
    refine Lib.wp_copy_run _ _ _ 36 36 rfl _ _ rfl rfl (run_copy_nil (P := Try.prog) w2 36 36 _ 5 _ 32 32 Try.underlying36 (by rw [info_u8s]; rfl)) ?_
    refine hK.out _ _ trivial (fun _ => ?_)
    clear hK K
    go_simp
    refine wpS_done ?_
    have Hend := Lib.hid hend
    have Hrow3 := Lib.hid hrow3
    clear hend hrow3
    go_wp2_with (first
      | (refine wpList_load_mid rfl _ _ rfl w.heap.size 0 rfl (b8s idv) _ (range_of_row Hrow3.out) Try.underlying30 rfl (by rw [b8s_length, HL.out]; exact info_id) ?_)
      | (refine wpList_store_mid rfl _ _ _ rfl w.heap.size 0 (b8s idv).toArray rfl rfl (there_of_row Hrow3.out) (by rw [List.size_toArray, b8s_length, HL.out]; exact info_id) (all_oneCell_toArray (b8s_one' _)) ?_))
    have hend := Hend.out _ (setCells_grown w.heap.size (b8s idv) 0 _)
    have hres := World.rangeAt_setCells_same _ w.heap.size 0 (b8s idv) (by have := there_of_row Hrow3.out; simpa using this)
    refine bodyPost_ret (v := .agg (b8s idv).toArray) ?_ rfl ⟨rfl, hend.1, hend.2⟩
    have hl := run_loadVar_mid (P := Try.prog) _ w.heap.size 0 30 (b8s idv) _ hres Try.underlying30 rfl (by rw [b8s_length, HL.out]; exact info_id)
    simp [results, Try.results55, asAddr, hl, Act.put]
end Go.Proofs.Ytabkgoandfpclaa
