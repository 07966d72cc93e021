/- The document's names of refs: behind, Branch, Valid. (With the texts that it stands on.) -/
import Derived.Test.YtelbofikcpchiaaGreatQT
import Derived.Test.YtelbofikcpchiaaGreatQG
import Derived.Test.YtelbofikcpchiaaGreatQC
namespace Go.Proofs.YtelbofikcpchiaaGreat
set_option maxRecDepth 100000
def getL (log : List UpM) (s : List UInt8) : List UInt8 := log.foldl (fun out u => if u.name = s then u.new else out) Z32
theorem getL_snoc (log : List UpM) (u : UpM) (s : List UInt8) : getL (log ++ [u]) s = if u.name = s then u.new else getL log s := by simp [getL]
theorem getL_len (log : List UpM) (h : ∀ u ∈ log, u.new.length = 32) (s : List UInt8) : (getL log s).length = 32 := by
 suffices hh : ∀ (l : List UpM) (o : List UInt8), o.length = 32 → (∀ u ∈ l, u.new.length = 32) → (l.foldl (fun out u => if u.name = s then u.new else out) o).length = 32 from hh log Z32 rfl h
 intro l
 induction l with
 | nil => intro o ho _; exact ho
 | cons u l ih =>
   intro o ho hl
   rw [List.foldl_cons]
   refine ih _ ?_ (fun v hv => hl v (List.mem_cons_of_mem _ hv))
   split
   ·exact hl u List.mem_cons_self
   ·exact ho
theorem getA_upd (al : AL (List UInt8)) (u : UpM) (s : List UInt8) : getA (updA al u) s = if u.name = s then u.new else getA al s := by
 unfold updA getA
 by_cases hz : u.new = Z32
 ·rw [if_pos hz, findA_del, findA_put]
  by_cases hs : s = u.name
  ·rw [if_pos hs, if_pos hs.symm, hz]; rfl
  ·rw [if_neg hs, if_neg hs, if_neg (fun e => hs e.symm)]
 ·rw [if_neg hz, findA_put]
  by_cases hs : s = u.name
  ·rw [if_pos hs, if_pos hs.symm]; rfl
  ·rw [if_neg hs, if_neg (fun e => hs e.symm)]
structure GL (r : RfM) : Prop where
 get : ∀ s, getA r.all s = getL r.log s
 nz : ∀ p ∈ r.all, p.2 ≠ Z32
 ne : ∀ u ∈ r.log, u.name ≠ []
theorem GL.zero : GL rf0 := ⟨fun s => rfl, fun p hp => by simp [rf0] at hp, fun p hp => by simp [rf0] at hp⟩
theorem upd_nz {al : AL (List UInt8)} (h : ∀ p ∈ al, p.2 ≠ Z32) (u : UpM) : ∀ p ∈ updA al u, p.2 ≠ Z32 := by
 intro p hp
 unfold updA at hp
 by_cases hz : u.new = Z32
 ·rw [if_pos hz] at hp
  obtain ⟨h1, h2⟩ := delA_mem.1 hp
  rcases insA_mem.1 h1 with rfl | h3
  ·exact absurd rfl h2
  ·exact h p (delA_mem.1 h3).1
 ·rw [if_neg hz] at hp
  rcases insA_mem.1 hp with rfl | h3
  ·exact hz
  ·exact h p (delA_mem.1 h3).1
theorem GL.make {r : RfM} (h : GL r) (t : TxM) (hn : ∀ u ∈ t.us, u.name ≠ []) : GL (makeR r t) := by
 obtain ⟨h1, h2, h3⟩ := h
 refine ⟨?_, ?_, fun u hu => ?_⟩
 ·show ∀ s, getA (t.us.foldl updA r.all) s = getL (r.log ++ t.us) s
  generalize t.us = us
  generalize r.all = al at h1
  generalize r.log = lg at h1
  clear hn h2 h3
  induction us generalizing al lg with
  | nil => intro s; rw [List.append_nil]; exact h1 s
  | cons u us ih =>
    intro s
    have := ih (updA al u) (lg ++ [u]) (fun s => by rw [getA_upd, getL_snoc, h1]) s
    rw [List.append_assoc] at this
    exact this
 ·show ∀ p ∈ t.us.foldl updA r.all, p.2 ≠ Z32
  generalize t.us = us
  generalize r.all = al at h2
  clear hn h1 h3
  induction us generalizing al with
  | nil => exact h2
  | cons u us ih => exact ih (updA al u) (upd_nz h2 u)
 ·rcases List.mem_append.1 hu with h | h
  ·exact h3 u h
  ·exact hn u h
theorem valid_ne {s : List UInt8} (h : validB s = true) : s ≠ [] := by
 rintro rfl
 revert h
 decide +kernel
theorem chkUs_valid : ∀ (us : List UpM) (al : AL (List UInt8)) (met : List (List UInt8)), chkUs al met us = 0 → ∀ u ∈ us, validB u.name = true
 | [], _, _, _, u, hu => by cases hu
 | v :: us, al, met, h, u, hu => by
   have h1 : (if chkU al met v = 0 then chkUs al (met ++ [v.name]) us else chkU al met v) = 0 := h
   by_cases hc : chkU al met v = 0
   ·rw [if_pos hc] at h1
    rcases List.mem_cons.1 hu with rfl | hu
    ·cases hv : validB u.name with
     | true => rfl
     | false => unfold chkU at hc; rw [if_pos hv] at hc; cases hc
    ·exact chkUs_valid us al _ h1 u hu
   ·rw [if_neg hc] at h1
    exact absurd h1 hc
theorem check_valid {r : RfM} {t : TxM} (h : checkR r t = 0) : t.us.length ≤ 64 ∧ ∀ u ∈ t.us, validB u.name = true := by
 unfold checkR at h
 by_cases h1 : 64 < t.us.length
 ·rw [if_pos h1] at h; cases h
 ·rw [if_neg h1] at h
  by_cases h2 : chkUs r.all [] t.us ≠ 0
  ·rw [if_pos h2] at h; exact absurd h h2
  ·exact ⟨by omega, chkUs_valid t.us r.all [] (by simpa using h2)⟩
theorem GL.made {r : RfM} (h : GL r) {t : TxM} (hc : checkR r t = 0) : GL (makeR r t) := h.make t (fun u hu => valid_ne ((check_valid hc).2 u hu))
def candL (log : List UpM) (out : List (List UInt8)) (n : List UInt8) : Bool := decide (getL log n ≠ Z32) && (match out.getLast? with | none => true | some l => bytesBefore l n)
def bestS (log : List UpM) (out : List (List UInt8)) (b : List UInt8) (u : UpM) : List UInt8 := if candL log out u.name && (decide (b = []) || bytesBefore u.name b) then u.name else b
def bestL (log : List UpM) (out : List (List UInt8)) (l : List UpM) : List UInt8 := l.foldl (bestS log out) []
theorem bytes_irr (a : List UInt8) : bytesBefore a a = false := by
 cases h : bytesBefore a a with
 | false => rfl
 | true =>
   exfalso
   induction a with
   | nil => simp [bytesBefore] at h
   | cons x a ih =>
     simp [bytesBefore] at h
     exact ih h
theorem bestL_spec (log : List UpM) (out : List (List UInt8)) : ∀ (l : List UpM) (b : List UInt8), (∀ u ∈ l, u.name ≠ []) → (b ≠ [] → True) →
  (l.foldl (bestS log out) b = b ∨ ∃ u ∈ l, candL log out u.name = true ∧ l.foldl (bestS log out) b = u.name) ∧
  (b ≠ [] → l.foldl (bestS log out) b ≠ [] ∧ bytesBefore b (l.foldl (bestS log out) b) = false) ∧
  (∀ u ∈ l, candL log out u.name = true → l.foldl (bestS log out) b ≠ [] ∧ bytesBefore u.name (l.foldl (bestS log out) b) = false)
 | [], b, _, _ => ⟨.inl rfl, fun hb => ⟨hb, bytes_irr b⟩, fun u hu => by cases hu⟩
 | v :: l, b, hn, hb => by
   have hv : v.name ≠ [] := hn v List.mem_cons_self
   obtain ⟨h1, h2, h3⟩ := bestL_spec log out l (bestS log out b v) (fun u hu => hn u (List.mem_cons_of_mem _ hu)) (fun _ => trivial)
   rw [List.foldl_cons]
   generalize hR : l.foldl (bestS log out) (bestS log out b v) = R at h1 h2 h3
   by_cases hc : candL log out v.name = true
   ·by_cases hk : b = [] ∨ bytesBefore v.name b = true
    ·have e : bestS log out b v = v.name := by
      unfold bestS
      rw [if_pos (by rw [hc]; rcases hk with h | h; simp [h]; simp [h])]
     rw [e] at h1 h2
     obtain ⟨h4, h5⟩ := h2 hv
     refine ⟨?_, fun hb => ⟨h4, ?_⟩, fun u hu hcu => ?_⟩
     ·rcases h1 with h | ⟨u, hu, h⟩
      ·exact .inr ⟨v, List.mem_cons_self, hc, h⟩
      ·exact .inr ⟨u, List.mem_cons_of_mem _ hu, h⟩
     ·rcases hk with h | h
      ·exact absurd h hb
      ·cases hbr : bytesBefore b R with
       | false => rfl
       | true => rw [WideShapes.bytes_trans _ _ _ h hbr] at h5; cases h5
     ·rcases List.mem_cons.1 hu with rfl | hu
      ·exact ⟨h4, h5⟩
      ·exact h3 u hu hcu
    ·have hb1 : b ≠ [] := fun e => hk (.inl e)
     have hb2 : bytesBefore v.name b = false := by
      cases h : bytesBefore v.name b with
      | false => rfl
      | true => exact absurd (.inr h) hk
     have e : bestS log out b v = b := by
      unfold bestS
      rw [if_neg (by simp [hc, hb1, hb2])]
     rw [e] at h1 h2
     obtain ⟨h4, h5⟩ := h2 hb1
     refine ⟨?_, fun _ => ⟨h4, h5⟩, fun u hu hcu => ?_⟩
     ·rcases h1 with h | ⟨u, hu, h⟩
      ·exact .inl h
      ·exact .inr ⟨u, List.mem_cons_of_mem _ hu, h⟩
     ·rcases List.mem_cons.1 hu with rfl | hu
      ·refine ⟨h4, ?_⟩
       cases hbr : bytesBefore u.name R with
       | false => rfl
       | true =>
         by_cases hub : u.name = b
         ·rw [hub, h5] at hbr; cases hbr
         ·rcases WideAt.bytes_total u.name b hub with h | h
          ·rw [hb2] at h; cases h
          ·rw [WideShapes.bytes_trans _ _ _ h hbr] at h5; cases h5
      ·exact h3 u hu hcu
   ·have e : bestS log out b v = b := by
     unfold bestS
     rw [if_neg (by simp [hc])]
    rw [e] at h1 h2
    refine ⟨?_, h2, fun u hu hcu => ?_⟩
    ·rcases h1 with h | ⟨u, hu, h⟩
     ·exact .inl h
     ·exact .inr ⟨u, List.mem_cons_of_mem _ hu, h⟩
    ·rcases List.mem_cons.1 hu with rfl | hu
     ·exact absurd hcu hc
     ·exact h3 u hu hcu
theorem getA_key {al : AL (List UInt8)} (h : ∀ p ∈ al, p.2 ≠ Z32) (s : List UInt8) : getA al s ≠ Z32 ↔ s ∈ al.map (·.1) := by
 unfold getA findA
 constructor
 ·intro h1
  cases hf : al.find? (fun p => p.1 == s) with
  | none => rw [hf] at h1; exact absurd rfl h1
  | some p =>
    have h2 := List.find?_some hf
    exact List.mem_map.2 ⟨p, List.mem_of_find?_eq_some hf, by simpa using h2⟩
 ·intro h1
  obtain ⟨p, hp, rfl⟩ := List.mem_map.1 h1
  cases hf : al.find? (fun q => q.1 == p.1) with
  | none =>
    have := List.find?_eq_none.1 hf p hp
    simp at this
  | some q => exact h q (List.mem_of_find?_eq_some hf)
theorem getL_mem {log : List UpM} {s : List UInt8} (h : getL log s ≠ Z32) : ∃ u ∈ log, u.name = s := by
 suffices hh : ∀ (l : List UpM) (o : List UInt8), l.foldl (fun out u => if u.name = s then u.new else out) o = o ∨ ∃ u ∈ l, u.name = s by
  rcases hh log Z32 with h1 | h1
  ·exact absurd h1 h
  ·exact h1
 intro l
 induction l with
 | nil => intro o; exact .inl rfl
 | cons u l ih =>
   intro o
   by_cases hu : u.name = s
   ·exact .inr ⟨u, List.mem_cons_self, hu⟩
   ·rw [List.foldl_cons, if_neg hu]
    rcases ih o with h1 | ⟨v, hv, h1⟩
    ·exact .inl h1
    ·exact .inr ⟨v, List.mem_cons_of_mem _ hv, h1⟩
theorem best_next {r : RfM} (h : GL r) (hr : risesA r.all) {j : Nat} (hj : j ≤ r.all.length) :
  bestL r.log ((r.all.map (·.1)).take j) r.log = ((r.all.map (·.1))[j]?).getD [] := by
 obtain ⟨ks, hks⟩ := eX (r.all.map (·.1))
 have hkl : ks.length = r.all.length := by rw [← hks, List.length_map]
 have hpw : ks.Pairwise (fun a b => bytesBefore a b = true) := by rw [← hks]; exact List.pairwise_map.2 hr
 rw [hks]
 have hmem : ∀ s, getL r.log s ≠ Z32 ↔ s ∈ ks := fun s => by rw [← h.get, getA_key h.nz, hks]
 have hne : ∀ s ∈ ks, s ≠ [] := fun s hs => by
  obtain ⟨u, hu, rfl⟩ := getL_mem ((hmem s).2 hs)
  exact h.ne u hu
 have hcand : ∀ s, candL r.log (ks.take j) s = true ↔ s ∈ ks.drop j := by
  intro s
  have hgl : (ks.take j).getLast? = if j = 0 then none else ks[j - 1]? := by
   rw [List.getLast?_eq_getElem?, List.length_take, Nat.min_eq_left (by omega)]
   by_cases h0 : j = 0
   ·subst h0; simp
   ·rw [if_neg h0, List.getElem?_take, if_pos (by omega)]
  unfold candL
  rw [hgl]
  by_cases h0 : j = 0
  ·subst h0
   rw [if_pos rfl]
   simp [hmem]
  ·rw [if_neg h0]
   have hj1 : j - 1 < ks.length := by omega
   rw [List.getElem?_eq_getElem hj1]
   have hdj : ks.drop (j - 1) = ks[j - 1] :: ks.drop j := by
    rw [List.drop_eq_getElem_cons hj1]
    congr 2
    omega
   have hsp : ks = ks.take (j - 1) ++ (ks[j - 1] :: ks.drop j) := by rw [← hdj, List.take_append_drop]
   have hpa := List.pairwise_append.1 (hsp ▸ hpw : (ks.take (j - 1) ++ (ks[j - 1] :: ks.drop j)).Pairwise _)
   have hpc := List.pairwise_cons.1 hpa.2.1
   simp only [Bool.and_eq_true, decide_eq_true_eq, hmem]
   constructor
   ·rintro ⟨h1, h2⟩
    rw [hsp] at h1
    rcases List.mem_append.1 h1 with h3 | h3
    ·have h4 := hpa.2.2 s h3 ks[j - 1] List.mem_cons_self
     have h5 := WideShapes.bytes_trans _ _ _ h4 h2
     rw [bytes_irr] at h5
     cases h5
    ·rcases List.mem_cons.1 h3 with h3 | h3
     ·rw [h3, bytes_irr] at h2; cases h2
     ·exact h3
   ·intro h1
    exact ⟨List.mem_of_mem_drop h1, hpc.1 s h1⟩
 obtain ⟨h1, _, h3⟩ := bestL_spec r.log (ks.take j) r.log [] h.ne (fun _ => trivial)
 show r.log.foldl (bestS r.log (ks.take j)) [] = _
 generalize hR : r.log.foldl (bestS r.log (ks.take j)) [] = R at h1 h3
 by_cases hjl : j < ks.length
 ·rw [List.getElem?_eq_getElem hjl]
  show R = ks[j]
  have hdj : ks.drop j = ks[j] :: ks.drop (j + 1) := List.drop_eq_getElem_cons hjl
  have hc0 : candL r.log (ks.take j) ks[j] = true := (hcand _).2 (by rw [hdj]; exact List.mem_cons_self)
  obtain ⟨u, hu, hue⟩ := getL_mem ((hmem ks[j]).2 (List.getElem_mem hjl))
  have h4 := h3 u hu (by rw [hue]; exact hc0)
  rcases h1 with h1 | ⟨v, hv, hcv, hve⟩
  ·exact absurd h1 h4.1
  ·have h5 := (hcand v.name).1 hcv
   rw [hdj] at h5
   rcases List.mem_cons.1 h5 with h6 | h6
   ·rw [hve, h6]
   ·exfalso
    have hpd := (hpw.drop (i := j))
    rw [hdj] at hpd
    have h7 := (List.pairwise_cons.1 hpd).1 _ h6
    rw [hue, hve] at h4
    rw [h4.2] at h7
    cases h7
 ·rw [List.getElem?_eq_none (by omega)]
  rcases h1 with h1 | ⟨v, hv, hcv, hve⟩
  ·exact h1
  ·have h5 := (hcand v.name).1 hcv
   rw [List.drop_eq_nil_of_le (by omega)] at h5
   cases h5
open Go.RowKit
set_option maxRecDepth 100000 in
theorem rbehind_any (S W : ByteArray) (hm : S.size ≤ 9223372036854775806 ∧ W.size ≤ 9223372036854775806) (w : World) :
  Calls Tryz.prog 111 #[.string S, .string W] w fun e w' => w' = w ∧ (∀ r, behind S.data.toList W.data.toList = some r → ∃ T : ByteArray, e = .returned (.tuple #[.string T, .bool true]) ∧ T.data.toList = r ∧ T.size ≤ S.size) ∧ (behind S.data.toList W.data.toList = none → e = .returned (.tuple #[.string ⟨#[]⟩, .bool false])) := by
 have hs := size_toList S
 have hw := size_toList W
 have HB : Hid (∀ q, W.data.toList.isPrefixOf S.data.toList = q → behind S.data.toList W.data.toList = if q = true then some (S.data.toList.drop W.data.toList.length) else none) := h_ (by
  rintro q rfl
  rfl)
 by_cases h1 : W.size ≤ S.size
 ·have i1 : ¬ ((S.size : Int) < (W.size : Int)) := by omega
  have i2 : (W.size : Int) ≤ (S.size : Int) := by omega
  by_cases h2 : S.data.toList.take W.size = W.data.toList
  ·have hq : W.data.toList.isPrefixOf S.data.toList = true := by
    rw [pre_take]
    exact ⟨by omega, by rw [hw]; exact h2⟩
   have HBB := h_ ((HB.out _ hq).trans (if_pos rfl))
   have e1 : ((S.extract 0 W.size).toList == W.toList) = true := by
    rw [beq_iff_eq, tl_data, tl_data, ext_data, ← h2]
    simp
   have HTT : Hid ((S.extract W.size S.size).data.toList = S.data.toList.drop W.data.toList.length ∧ (S.extract W.size S.size).size ≤ S.size) := h_ (by
    constructor
    ·rw [ext_data, size_toList]
     refine List.take_of_length_le ?_
     rw [List.length_drop, size_toList]
     omega
    ·have h1 := size_toList (S.extract W.size S.size)
     rw [ext_data] at h1
     rw [← h1, List.length_take, List.length_drop, size_toList]
     omega)
   clear hq h2 HB
   go_enter Tryz.func111, Tryz.ntmps111
   go_wp2_with fail
   go_ret2
   refine ⟨rfl, fun r hr => ?_, fun hr => ?_⟩
   ·rw [HBB.out] at hr
    cases hr
    exact ⟨_, rfl, HTT.out.1, HTT.out.2⟩
   ·rw [HBB.out] at hr
    cases hr
  ·have hq : W.data.toList.isPrefixOf S.data.toList = false := by
    rw [Bool.eq_false_iff]
    intro h
    rw [pre_take, hw] at h
    exact h2 h.2
   have HBB := h_ ((HB.out _ hq).trans (if_neg (by decide)))
   have e1 : ((S.extract 0 W.size).toList == W.toList) = false := by
    rw [beq_eq_false_iff_ne, tl_data, tl_data, ext_data]
    intro e
    refine h2 ?_
    rw [← e]
    simp
   clear hq h2 HB
   go_enter Tryz.func111, Tryz.ntmps111
   go_wp2_with fail
   go_ret2
   refine ⟨rfl, fun r hr => ?_, fun hr => rfl⟩
   rw [HBB.out] at hr
   cases hr
 ·have i1 : (S.size : Int) < (W.size : Int) := by omega
  have hq : W.data.toList.isPrefixOf S.data.toList = false := by
   rw [Bool.eq_false_iff]
   intro h
   rw [pre_take] at h
   omega
  have HBB := h_ ((HB.out _ hq).trans (if_neg (by decide)))
  clear hq HB
  go_enter Tryz.func111, Tryz.ntmps111
  go_wp2_with fail
  go_ret2
  refine ⟨rfl, fun r hr => ?_, fun hr => rfl⟩
  rw [HBB.out] at hr
  cases hr
set_option maxRecDepth 100000 in
theorem rbranch_any (S : ByteArray) (hm : S.size ≤ 9223372036854775806) (w : World) :
  Calls Tryz.prog 94 #[.string S] w fun e w' => e = .returned (.bool (branchB S.data.toList)) ∧ Below w.heap.size w w' := by
 have HC := h_ (rbehind_any S ⟨#[104, 101, 97, 100, 115, 47]⟩ ⟨by omega, by decide⟩ w)
 unfold branchB
 cases hb : behind S.data.toList heads with
 | none =>
   have HB := h_ hb
   clear hb
   go_enter Tryz.func94, Tryz.ntmps94
   go_wp2_with fail
   refine HC.out.mono ?_
   rintro e w2 ⟨rfl, _, h2⟩
   obtain rfl := h2 HB.out
   clear h2
   go_wp2_with fail
   go_ret
   exact ⟨rfl, Below.refl _ _⟩
 | some r =>
   have HB := h_ hb
   clear hb
   go_enter Tryz.func94, Tryz.ntmps94
   go_wp2_with fail
   refine HC.out.mono ?_
   rintro e w2 ⟨rfl, h1, _⟩
   obtain ⟨T, rfl, hT, hTl⟩ := h1 r HB.out
   have HN := h_ (rname_any T (by omega) w2)
   rw [nmS_of hT] at HN
   clear h1 hT
   go_wp2_with fail
   refine HN.out.mono ?_
   rintro e w3 ⟨rfl, rfl⟩
   go_wp2_with fail
   go_ret
   exact ⟨rfl, Below.refl _ _⟩
theorem cutI_snoc (l : List UInt8) (i : Nat) (hi : i < l.length) (h : ∀ k (hk : k < l.length), k < i → l[k] ≠ 47) (x : UInt8) (hx : l[i] = x) : (x = 47 → cutI l 47 = some i) ∧ (x ≠ 47 → ∀ k (hk : k < l.length), k < i + 1 → l[k] ≠ 47) := by
 refine ⟨fun e => ?_, fun hne k hk hki => ?_⟩
 ·unfold cutI
  rw [List.findIdx?_eq_some_iff_getElem]
  exact ⟨hi, by simp [hx, e], fun j hj => by simpa using h j (by omega) hj⟩
 ·by_cases hk2 : k = i
  ·subst hk2; rw [hx]; exact hne
  ·exact h k hk (by omega)
theorem cutI_end (l : List UInt8) (h : ∀ k (hk : k < l.length), k < l.length → l[k] ≠ 47) : cutI l 47 = none := by
 unfold cutI
 rw [List.findIdx?_eq_none_iff]
 intro x hx
 obtain ⟨k, hk, rfl⟩ := List.mem_iff_getElem.1 hx
 simpa using h k hk hk
set_option maxRecDepth 100000 in
set_option maxHeartbeats 2000000 in
theorem rvalid_any (S : ByteArray) (hm : S.size ≤ 9223372036854775806) (w : World) :
  Calls Tryz.prog 93 #[.string S] w fun e w' => e = .returned (.bool (validB S.data.toList)) ∧ Below w.heap.size w w' := by
 have HC := h_ (rbehind_any S ⟨#[116, 97, 103, 115, 47]⟩ ⟨by omega, by decide⟩ w)
 have HC2 := h_ (rbehind_any S ⟨#[114, 101, 109, 111, 116, 101, 115, 47]⟩ ⟨by omega, by decide⟩ w)
 have HBR := h_ (rbranch_any S hm w)
 obtain ⟨q, hq⟩ := eX (validB S.data.toList)
 have HQ := h_ hq
 rw [hq]
 have HVB : Hid (validB S.data.toList = match behind S.data.toList tags with
  | some r => nmS r
  | none => match behind S.data.toList remotes with
    | some r => (match cutI r 47 with
      | some i => nmS (r.take i) && nmS (r.drop (i + 1))
      | none => false)
    | none => branchB S.data.toList) := h_ rfl
 rw [HQ.out] at HVB
 clear hq
 go_enter Tryz.func93, Tryz.ntmps93
 go_wp2_with fail
 refine HC.out.mono ?_
 rintro e w2 ⟨rfl, ha1, hn1⟩
 have HA1 := h_ ha1
 have HN1 := h_ hn1
 clear ha1 hn1
 cases hb : behind S.data.toList tags with
 | some r =>
   obtain ⟨T, rfl, hT, hTl⟩ := HA1.out r hb
   have HN := h_ (rname_any T (by omega) w2)
   rw [nmS_of hT] at HN
   have h1 := HVB.out
   rw [hb] at h1
   dsimp only at h1
   rw [← h1] at HN
   clear hb hT h1
   go_wp2_with fail
   refine HC2.out.mono ?_
   rintro e w3 ⟨rfl, ha2, hn2⟩
   have HA2 := h_ ha2
   have HN2 := h_ hn2
   clear ha2 hn2
   cases hb2 : behind S.data.toList remotes with
   | some r2 =>
     obtain ⟨T2, rfl, _, _⟩ := HA2.out r2 hb2
     clear hb2
     go_wp2_with fail
     refine HN.out.mono ?_
     rintro e w4 ⟨rfl, rfl⟩
     go_wp2_with fail
     go_ret
     exact ⟨rfl, Below.refl _ _⟩
   | none =>
     obtain rfl := HN2.out hb2
     clear hb2
     go_wp2_with fail
     refine HN.out.mono ?_
     rintro e w4 ⟨rfl, rfl⟩
     go_wp2_with fail
     go_ret
     exact ⟨rfl, Below.refl _ _⟩
 | none =>
   obtain rfl := HN1.out hb
   have h1 := HVB.out
   rw [hb] at h1
   dsimp only at h1
   have HV2 := h_ h1
   clear hb h1
   go_wp2_with fail
   refine HC2.out.mono ?_
   rintro e w3 ⟨rfl, ha2, hn2⟩
   have HA2 := h_ ha2
   have HN2 := h_ hn2
   clear ha2 hn2
   cases hb2 : behind S.data.toList remotes with
   | none =>
     obtain rfl := HN2.out hb2
     have h1 := HV2.out
     rw [hb2] at h1
     dsimp only at h1
     rw [← h1] at HBR
     clear hb2 h1
     go_wp2_with fail
     refine HBR.out.mono ?_
     rintro e w4 ⟨rfl, hb4⟩
     go_wp2_with fail
     go_ret
     exact ⟨rfl, hb4⟩
   | some r =>
     obtain ⟨T, rfl, hT, hTl⟩ := HA2.out r hb2
     have h1 := HV2.out
     rw [hb2] at h1
     dsimp only at h1
     have HV3 := h_ h1
     have HTE := h_ hT
     have hts := size_toList T
     rw [hT] at hts
     have HTS := h_ hts
     have hnm : T.size ≤ 9223372036854775806 := by omega
     clear hb2 h1 hT hts
     go_wp2_with fail
     go_loopg [7] (T.size * 1) (fun gk_ iv wr => ∃ i : Nat, i ≤ T.size ∧ gk_ = T.size - i ∧ iv = .int .i64 (i : Int) ∧ Hid (∀ k (hk : k < r.length), k < i → r[k] ≠ 47) ∧ Hid (Below w3.heap.size w3 wr))
     case atStart => exact ⟨0, by omega, by omega, rfl, h_ (fun k _ h => by omega), h_ (Below.refl _ _)⟩
     case round =>
     obtain ⟨i, hi, rfl, rfl, HNO, HB⟩ := hrel
     by_cases hlt : i < T.size
     ·have i1 : (i : Int) < (T.size : Int) := by omega
      have hir : i < r.length := by rw [HTS.out]; exact hlt
      obtain ⟨x, hx⟩ : ∃ x : UInt8, T[i]'hlt = x := ⟨_, rfl⟩
      have hxr : r[i] = x := by
       have h1 := Lib.data_getElem? T i hlt
       rw [HTE.out, List.getElem?_eq_getElem hir] at h1
       rw [Option.some.inj h1, hx]
      obtain ⟨hc1, hc2⟩ := cutI_snoc r i hir HNO.out x hxr
      have HC1 := h_ hc1
      have HC2' := h_ hc2
      clear hxr hc1 hc2 hir
      by_cases hx47 : x.toNat = 47
      ·have hx2 : x = 47 := by
        have : x.toNat = (47 : UInt8).toNat := hx47
        exact UInt8.toNat_inj.1 this
       have z1 : ((x.toNat : Int) == 47) = true := by rw [hx47]; rfl
       have hcut := HC1.out hx2
       have h1 := HV3.out
       rw [hcut] at h1
       dsimp only at h1
       have HV4 := h_ h1
       obtain ⟨A, hA, hAs⟩ : ∃ A : ByteArray, T.extract 0 i = A ∧ A.data.toList = r.take i := ⟨_, rfl, by rw [ext_data, HTE.out]; simp⟩
       obtain ⟨B, hB, hBs⟩ : ∃ B : ByteArray, T.extract (i + 1) T.size = B ∧ B.data.toList = r.drop (i + 1) := ⟨_, rfl, by
        rw [ext_data, HTE.out]
        refine List.take_of_length_le ?_
        rw [List.length_drop, HTS.out]
        omega⟩
       have hAl : A.size ≤ 9223372036854775806 := by
        have := size_toList A
        rw [hAs, List.length_take] at this
        omega
       have hBl : B.size ≤ 9223372036854775806 := by
        have := size_toList B
        rw [hBs, List.length_drop, HTS.out] at this
        omega
       have HNA : Hid (∀ w, Calls Tryz.prog 112 #[.string A] w fun e w' => w' = w ∧ e = .returned (.bool (nmS (r.take i)))) := h_ (fun w => by have := rname_any A (by omega) w; rw [nmS_of hAs] at this; exact this)
       have HNB : Hid (∀ w, Calls Tryz.prog 112 #[.string B] w fun e w' => w' = w ∧ e = .returned (.bool (nmS (r.drop (i + 1))))) := h_ (fun w => by have := rname_any B (by omega) w; rw [nmS_of hBs] at this; exact this)
       obtain ⟨qa, hqa⟩ := eX (nmS (r.take i))
       obtain ⟨qb, hqb⟩ := eX (nmS (r.drop (i + 1)))
       rw [hqa, hqb] at HV4
       rw [hqa] at HNA
       rw [hqb] at HNB
       have j1 : ((i : Int) + 1) ≤ (T.size : Int) := by omega
       clear hx47 hx2 hcut h1 hAs hBs hqa hqb hAl hBl
       obtain rfl := HV4.out
       cases qa with
       | false =>
         go_wp2_with fail
         try rw [hA]
         refine (HNA.out _).mono ?_
         rintro e w5 ⟨rfl, rfl⟩
         go_wp2_with fail
         go_ret
         exact ⟨rfl, HB.out⟩
       | true =>
         go_wp2_with fail
         try rw [hA]
         refine (HNA.out _).mono ?_
         rintro e w5 ⟨rfl, rfl⟩
         go_wp2_with fail
         try rw [hB]
         refine (HNB.out _).mono ?_
         rintro e w6 ⟨rfl, rfl⟩
         go_wp2_with fail
         go_ret
         exact ⟨rfl, HB.out⟩
      ·have hx2 : x ≠ 47 := fun e => hx47 (by rw [e]; rfl)
       have z1 : ((x.toNat : Int) == 47) = false := by rw [beq_eq_false_iff_ne]; omega
       have HNO2 := h_ (HC2'.out hx2)
       clear hx47 hx2
       go_wp2_with fail
       go_roundg (T.size - (i + 1))
       case measure => omega
       case rel => exact ⟨i + 1, by omega, rfl, by first | rfl | exact congrArg (Value.int .i64) (by omega) | go_num, HNO2, HB⟩
     ·obtain rfl : i = T.size := by omega
      have h1 := HV3.out
      rw [cutI_end r (fun k hk _ => HNO.out k hk (by rw [HTS.out] at hk; exact hk))] at h1
      dsimp only at h1
      subst h1
      go_wp2_with fail
      go_ret
      exact ⟨rfl, HB.out⟩
end Go.Proofs.YtelbofikcpchiaaGreat
