/- Refs, plain: a file that is cut behind its good records tells the same. (With the texts that it stands on.) -/
import Derived.Test.YtelbofikcpchiaaGreatRg9
import Derived.Test.YtelbofikcpchiaaGreatRf32
import Derived.Test.YtelbofikcpchiaaGreatQT
namespace Go.Proofs.YtelbofikcpchiaaGreat
open Go.RowKit
theorem up_ext1 {u : UpM} (h : upOk u) : (upC u).toArray.extract 1 33 = (b8s u.old).toArray ∧ (upC u).toArray.extract 33 65 = (b8s u.new).toArray := by
 have h1 : (b8s u.old).length = 32 := by rw [b8s_length, h.1]
 have h2 : (b8s u.new).length = 32 := by rw [b8s_length, h.2.1]
 constructor
 ·apply Array.toList_inj.1
  simp only [upC, Array.toList_extract, List.extract_eq_take_drop]
  show List.take 32 (List.drop 1 (strV u.name :: (b8s u.old ++ b8s u.new))) = _
  rw [List.drop_succ_cons, List.drop_zero, List.take_append_of_le_length (by omega), List.take_of_length_le (by omega)]
 ·apply Array.toList_inj.1
  simp only [upC, Array.toList_extract, List.extract_eq_take_drop]
  show List.take 32 (List.drop 33 (strV u.name :: (b8s u.old ++ b8s u.new))) = _
  rw [List.drop_succ_cons, List.drop_append, List.drop_of_length_le (by omega), h1, Nat.sub_self, List.drop_zero, List.nil_append, List.take_of_length_le (by omega)]
theorem fieldsOf_of {P : Program} {t : TypeId} {fs : Array Field} (h : P.underlying t = some (.struct fs)) : P.fieldsOf t = fs := by unfold Program.fieldsOf; rw [h]
theorem eqf3 {P : Program} (w : World) (d : Nat) (xs : Array Value) (f0 f1 f2 : Field) (a b c : Value) (n0 : f0.name ≠ "_") (n1 : f1.name ≠ "_") (n2 : f2.name ≠ "_")
  (e0 : (part f0.type xs f0.offset).run P w = .ok a w) (e1 : (part f1.type xs f1.offset).run P w = .ok b w) (e2 : (part f2.type xs f2.offset).run P w = .ok c w)
  (q0 : (Op.equalIn d f0.type a a).run P w = .ok true w) (q1 : (Op.equalIn d f1.type b b).run P w = .ok true w) (q2 : (Op.equalIn d f2.type c c).run P w = .ok true w) : (Op.eqFields d xs xs [f0, f1, f2]).run P w = .ok true w := by
 simp [Op.eqFields, Sem.run_bind, n0, n1, n2, e0, e1, e2, q0, q1, q2, Result.andThen_ok]
theorem fields3 : ∃ f0 f1 f2 : Field, Tryz.prog.underlying 31 = some (.struct #[f0, f1, f2]) ∧ f0.name ≠ "_" ∧ f1.name ≠ "_" ∧ f2.name ≠ "_" ∧ f0.type = 9 ∧ f1.type = 24 ∧ f2.type = 24 ∧ f0.offset = 0 ∧ f1.offset = 1 ∧ f2.offset = 33 :=
 ⟨_, _, _, Tryz.underlying31, by decide, by decide, by decide, rfl, rfl, rfl, rfl, rfl, rfl⟩
theorem up_parts {u : UpM} (h : upOk u) (w : World) : (part 9 (upC u).toArray 0).run Tryz.prog w = .ok (strV u.name) w ∧ (part 24 (upC u).toArray 1).run Tryz.prog w = .ok (.agg (b8s u.old).toArray) w ∧ (part 24 (upC u).toArray 33).run Tryz.prog w = .ok (.agg (b8s u.new).toArray) w := by
 obtain ⟨x1, x2⟩ := up_ext1 h
 have ea : (isAgg 24).run Tryz.prog w = .ok true w := by simp [isAgg, run_underlying Tryz.underlying24]
 have es : (sizeOf 24).run Tryz.prog w = .ok 32 w := by kernel_rfl
 have eb : (isAgg 9).run Tryz.prog w = .ok false w := by simp [isAgg, run_underlying Tryz.underlying9]
 refine ⟨?_, ?_, ?_⟩
 ·simp [part, eb, upC]
 ·rw [← x1]
  simp [part, ea, es]
 ·rw [← x2]
  simp [part, ea, es]
theorem up_held : Tryz.prog.stoodInHeld 31 = false := by kernel_rfl
theorem up_eqD {u : UpM} (h : upOk u) (d : Nat) (w : World) : (Op.equalIn (d + 3) 31 (.agg (upC u).toArray) (.agg (upC u).toArray)).run Tryz.prog w = .ok true w := by
 obtain ⟨f0, f1, f2, hu, n0, n1, n2, t0_, t1_, t2_, o0, o1, o2⟩ := fields3
 obtain ⟨e0, e1, e2⟩ := up_parts h w
 obtain ⟨i, hi⟩ : ∃ i, Tryz.prog.info? 5 = some i := Option.isSome_iff_exists.1 (by kernel_rfl)
 have q1 := run_eq_bytes (P := Tryz.prog) (t := 24) (e := 5) (n := 32) d u.old u.old w Tryz.underlying24 Tryz.underlying5 hi (by kernel_rfl) (by kernel_rfl) h.1 h.1
 have q2 := run_eq_bytes (P := Tryz.prog) (t := 24) (e := 5) (n := 32) d u.new u.new w Tryz.underlying24 Tryz.underlying5 hi (by kernel_rfl) (by kernel_rfl) h.2.1 h.2.1
 have q0 := run_equalIn_string (P := Tryz.prog) w (d + 1) 9 ⟨u.name.toArray⟩ ⟨u.name.toArray⟩ Tryz.underlying9
 rw [decide_eq_true rfl] at q1 q2
 rw [beq_self_eq_true] at q0
 have hfd := fieldsOf_of hu
 rw [run_equalIn_struct (P := Tryz.prog) w (d + 2) 31 _ _ (by rw [hfd]; exact hu) up_held, hfd]
 refine eqf3 w (d + 2) _ f0 f1 f2 (strV u.name) (.agg (b8s u.old).toArray) (.agg (b8s u.new).toArray) n0 n1 n2 ?_ ?_ ?_ ?_ ?_ ?_
 ·rw [t0_, o0]; exact e0
 ·rw [t1_, o1]; exact e1
 ·rw [t2_, o2]; exact e2
 ·rw [t0_]; exact q0
 ·rw [t1_]; exact q1
 ·rw [t2_]; exact q2
theorem up_neq {u : UpM} (h : upOk u) (w : World) : (binOp .neq 31 (.agg (upC u).toArray) (.agg (upC u).toArray)).run Tryz.prog w = .ok (.bool false) w := by
 have h1 := up_eqD h 9997 w
 simp only [Nat.reduceAdd] at h1
 rw [run_neq_struct, h1]
 rfl
theorem numS_pre (most : Int) : ∀ (f i acc : Nat) (bs : List UInt8) (n : Nat) (r : List UInt8), numS most f i acc bs = some (n, r) → ∃ p, bs = p ++ r ∧ ∀ r', numS most f i acc (p ++ r') = some (n, r')
 | 0, _, _, _, _, _, h => by simp [numS] at h
 | _ + 1, _, _, [], _, _, h => by simp [numS] at h
 | f + 1, i, acc, c :: bs, n, r, h => by
   unfold numS at h
   split at h
   ·rename_i hc
    obtain ⟨p, h1, h2⟩ := numS_pre most f _ _ bs n r h
    refine ⟨c :: p, by rw [h1]; rfl, fun r' => ?_⟩
    rw [List.cons_append]
    unfold numS
    rw [if_pos hc]
    exact h2 r'
   ·rename_i hc
    split at h
    ·cases h
    ·rename_i hc2
     cases h
     refine ⟨[c], rfl, fun r' => ?_⟩
     rw [List.singleton_append]
     unfold numS
     rw [if_neg hc, if_neg hc2]
theorem split_pre {b : List UInt8} {t : TxM} {k : Nat} (h : splitP b = (t, k, true)) (j : Nat) (hj : k ≤ j) : splitP (b.take j) = (t, k, true) := by
 unfold splitP at h
 cases hn : numS 1048576 9 0 0 b with
 | none =>
   rw [getNum_none hn] at h
   simp [getFour, getN] at h
 | some v =>
   obtain ⟨n, r⟩ := v
   obtain ⟨p, hp, hpr⟩ := numS_pre _ _ _ _ _ _ _ hn
   rw [getNum_some hn] at h
   by_cases h4 : 4 ≤ r.length
   ·have hg4 : getFour (some r) = (four (r.take 4), some (r.drop 4)) := by unfold getFour; rw [getN_yes h4]
    simp only [hg4] at h
    by_cases hl : (r.drop 4).length < n
    ·rw [if_pos hl] at h; cases h
    ·rw [if_neg hl] at h
     simp only [Prod.mk.injEq] at h
     obtain ⟨ht, hk, ho⟩ := h
     have hbl : b.length = p.length + r.length := by rw [hp, List.length_append]
     have hr4 : (r.drop 4).length = r.length - 4 := List.length_drop ..
     have hkk : k = p.length + 4 + n := by omega
     have hbt : b.take j = p ++ r.take (j - p.length) := by
      rw [hp, List.take_append, List.take_of_length_le (by omega)]
     have hn2 := hpr (r.take (j - p.length))
     rw [← hbt] at hn2
     have h42 : 4 ≤ (r.take (j - p.length)).length := by rw [List.length_take]; omega
     have hg42 : getFour (some (r.take (j - p.length))) = (four (r.take 4), some ((r.drop 4).take (j - p.length - 4))) := by
      unfold getFour
      rw [getN_yes h42, List.take_take, Nat.min_eq_left (by omega), List.drop_take]
     unfold splitP
     rw [getNum_some hn2]
     simp only [hg42]
     have hl2 : ¬ ((r.drop 4).take (j - p.length - 4)).length < n := by rw [List.length_take]; omega
     have hP : ((r.drop 4).take (j - p.length - 4)).take n = (r.drop 4).take n := by rw [List.take_take, Nat.min_eq_left (by omega)]
     rw [if_neg hl2]
     simp only [hP, Prod.mk.injEq]
     refine ⟨ht, ?_, ho⟩
     rw [hbt, List.length_append, List.length_take, List.length_take, hr4, hkk]
     omega
   ·have hg4 : getFour (some r) = (0, none) := by
     unfold getFour
     rw [getN_no (fun bs e => by cases e; omega)]
     rfl
    simp only [hg4] at h
    cases h
theorem split_nil : (splitP []).2.2 = false := by decide +kernel
theorem openP_ge : ∀ (f : Nat) (r : RfM) (X : List UInt8) (g : Nat), g ≤ (openP f r X g).2
 | 0, r, X, g => Nat.le_refl _
 | f + 1, r, X, g => by
   simp only [openP]
   split
   ·exact Nat.le_refl _
   ·exact Nat.le_trans (Nat.le_add_right _ _) (openP_ge f _ X _)
theorem openP_cut : ∀ (f : Nat) (r : RfM) (X : List UInt8) (gd : Nat) (Rf : RfM) (G : Nat), openP f r X gd = (Rf, G) → X.length - gd < f → gd ≤ X.length → ∀ f', G - gd < f' → openP f' r (X.take G) gd = (Rf, G) ∧ G ≤ X.length
 | 0, r, X, gd, Rf, G, h, hf, hg, f', hf' => by omega
 | f + 1, r, X, gd, Rf, G, h, hf, hg, f', hf' => by
   obtain ⟨f', rfl⟩ : ∃ k, f' = k + 1 := ⟨f' - 1, by omega⟩
   simp only [openP] at h ⊢
   by_cases hc : (splitP (X.drop gd)).2.2 = false ∨ checkR r (splitP (X.drop gd)).1 ≠ 0
   ·rw [if_pos hc] at h
    cases h
    refine ⟨?_, hg⟩
    have e : (X.take gd).drop gd = [] := by rw [List.drop_take, Nat.sub_self, List.take_zero]
    rw [e, if_pos (.inl split_nil)]
   ·rw [if_neg hc] at h
    have hge := openP_ge f (makeR r (splitP (X.drop gd)).1) X (gd + (splitP (X.drop gd)).2.1)
    rw [h] at hge
    dsimp only at hge
    have hso := (split_ok (X.drop gd)).2.2 (by
     cases hb : (splitP (X.drop gd)).2.2 with
     | true => rfl
     | false => exact absurd (.inl hb) hc)
    rw [List.length_drop] at hso
    have hsp : splitP (X.drop gd) = ((splitP (X.drop gd)).1, (splitP (X.drop gd)).2.1, true) := by
     cases hb : (splitP (X.drop gd)).2.2 with
     | true => rw [← hb]
     | false => exact absurd (.inl hb) hc
    have e : (X.take G).drop gd = (X.drop gd).take (G - gd) := List.drop_take ..
    have hs2 := split_pre hsp (G - gd) (by omega)
    obtain ⟨h1, h2⟩ := openP_cut f _ X _ Rf G h (by omega) (by omega) f' (by omega)
    refine ⟨?_, h2⟩
    rw [e, hs2]
    have hc2 : ¬ ((true = false) ∨ checkR r (splitP (X.drop gd)).1 ≠ 0) := by
     intro hx
     rcases hx with hx | hx
     ·cases hx
     ·exact hc (.inr hx)
    dsimp only
    rw [if_neg hc2]
    exact h1
theorem openP_again {X : List UInt8} {Rf : RfM} {G : Nat} (h : openP (X.length + 1) rf0 X 0 = (Rf, G)) : openP ((X.take G).length + 1) rf0 (X.take G) 0 = (Rf, G) ∧ G = (X.take G).length := by
 have hG := (openP_cut _ _ _ _ _ _ h (by omega) (Nat.zero_le _) (G + 1) (by omega)).2
 have hl : (X.take G).length = G := by rw [List.length_take]; omega
 refine ⟨?_, hl.symm⟩
 rw [hl]
 exact (openP_cut _ _ _ _ _ _ h (by omega) (Nat.zero_le _) (G + 1) (by omega)).1
end Go.Proofs.YtelbofikcpchiaaGreat
