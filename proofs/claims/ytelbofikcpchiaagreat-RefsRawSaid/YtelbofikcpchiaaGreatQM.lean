/- Refs: what a turn makes of them in memory (words for make). (With the texts that it stands on.) -/
import Derived.Test.YtelbofikcpchiaaGreatQG
import Derived.Test.YtelbofikcpchiaaGreatRfIter
import Derived.Great.BuildSlice
import Derived.Maps.OwnSet
namespace Go.Proofs.YtelbofikcpchiaaGreat
open Go.RowKit
open Go.Sort
theorem keysA_sorted {α : Type} {ns : AL α} (h : risesA ns) : (ns.map (·.1)).mergeSort (fun x y => decide (x ≤ y)) = ns.map (·.1) := by
 refine List.mergeSort_of_pairwise ?_
 rw [List.pairwise_map]
 refine h.imp fun {a b} hab => ?_
 rw [decide_eq_true_eq]
 exact List.le_of_lt (bytes_lt hab)
theorem strKeys_mapA {α : Type} (g : α → DataW Unit) (ns : AL α) : strKeys (mapA g ns) = ns.map (·.1) := by
 show (ns.map (entA g)).map (fun p => strOf p.1) = _
 rw [List.map_map]
 rfl
def keysC {α : Type} (ns : AL α) : List Value := ns.map fun p => strV p.1
set_option maxRecDepth 100000 in
set_option maxHeartbeats 4000000 in
theorem rnames_any {N gr g : Nat} {w : World} {r : RfM} {q : QA} (h : RfIn N w gr g r q) (hk : RfOk r) (hl : r.all.length ≤ 1000000) :
  Calls Tryz.prog 11 #[.pointer (some ⟨gr, 0, none⟩)] w fun e w' => ∃ v, e = .returned v ∧ w'.ownsRow w.heap.size 9 1 v r.all.length (keysC r.all) ∧ Below w.heap.size w w' := by
 have c1 := h.cells.2.1
 have hsz := mapA_size idD r.all
 have hown := h.map
 have HK : Hid (∀ ss : List (List UInt8), ss.Perm (strKeys (mapA idD r.all)) → ss.length = r.all.length ∧ (ss.mergeSort (fun x y => decide (x ≤ y))).map strV = keysC r.all) := h_ (fun ss hp => by
  rw [strKeys_mapA] at hp
  refine ⟨by rw [hp.length_eq, List.length_map], ?_⟩
  have h1 := mergeSort_of_perm hp
  have h2 : (ss.mergeSort (fun x y => decide (x ≤ y))) = ss.mergeSort leB := rfl
  rw [h2, h1]
  have h3 := keysA_sorted hk.rn
  have h4 : ((r.all.map (·.1)).mergeSort leB) = r.all.map (·.1) := h3
  rw [h4, List.map_map]
  rfl)
 have hSO := fun W (ho : World.ownsMap W Tryz.prog 9 idR q.mb r.all.length (mapA idD r.all)) => Tryz.slices_Sorted_keys_35_36 q.mb r.all.length (mapA idD r.all) idR W ho (by rw [hsz]; unfold maxLen; omega) (by rw [hsz]; omega)
 have HSO := h_ (hSO w hown)
 clear h hsz hk hSO hown
 refine (callsIn_wide (n := 6)).1 ?_
 have hfK : Fence.wide.fn 36 := trivial
 have hfS : Fence.wide.fn 35 := trivial
 refine callsIn_of_wp Tryz.func11 rfl trivial ?_ rfl
 simp only [Tryz.ntmps11, List.size_toArray, List.length_cons, List.length_nil, Nat.reduceAdd, Nat.reduceSub, Array.replicate_succ, Array.replicate_zero, List.push_toArray, List.append_toArray, List.nil_append, List.cons_append]
 gi_wp2_with (first
  | (gi_at_call 36; refine (Tryz.maps_Keys_36 _ _).mono ?_; rintro e w' ⟨rfl, rfl⟩)
  | (gi_at_call 35; refine HSO.out.mono ?_; rintro e w' ⟨v, ss, rfl, hS, hrow, hnil, hb⟩))
 go_ret
 obtain ⟨k1, k2⟩ := HK.out ss hS
 refine ⟨v, rfl, ?_, ((Below.refl _ w).alloc (Nat.le_refl _) _).trans (hb.mono (by simp))⟩
 have h2 : (ss.mergeSort (fun x y => decide (x ≤ y))).map encStr = keysC r.all := k2
 rw [h2, k1] at hrow
 exact own_mono hrow (by simp)
theorem info_up65 : (Tryz.prog.info? 31).map (fun i => (i.zero, i.size, i.bytes)) = some (some (.agg (#[.string ⟨#[]⟩] ++ (b8s (List.replicate 64 0)).toArray)), 65, 80) := by kernel_rfl
theorem rd_none_upd {w : World} {us : List UpM} (h : Rd w none (upsC us)) : us = [] := by
 cases us with
 | nil => rfl
 | cons u r =>
   obtain ⟨b, o, hA, _⟩ := h.at_ 0 (by simp [upsC, upC])
   cases hA
set_option maxRecDepth 100000 in
set_option maxHeartbeats 2000000 in
theorem clone_up (A : Option Addr) (us : List UpM) (n c : Nat) (w : World) (hn : us.length = n) (hk : ∀ u ∈ us, upOk u) (hr : Rd w A (upsC us)) (hm : n ≤ 1000000) :
  Calls Tryz.prog 37 #[.slice A n c] w fun e w' => ∃ A' c', e = .returned (.slice A' n c') ∧ w'.ownsRow w.heap.size 31 65 (.slice A' n c') n (upsC us) ∧ Below w.heap.size w w' := by
 have hnil := fun (w : World) (n c : Nat) => Lib.run_eql_slice_nil (P := Tryz.prog) w 26 31 A n c 0 0 Tryz.underlying26
 have HN := h_ hn
 cases A with
 | none =>
   have h0 := rd_none_upd hr
   subst h0
   have : n = 0 := by rw [← hn]; rfl
   subst this
   clear hn hr hk
   go_enter Tryz.func37, Tryz.ntmps37
   go_wp2_with fail
   go_ret
   exact ⟨none, 0, rfl, World.ownsRow_nil _ _ _ _, Below.refl _ _⟩
 | some ad =>
   obtain ⟨W1, hW1⟩ := eX (w.alloc (.cells #[] 31))
   have b1 : Below w.heap.size w W1 := by rw [← hW1]; exact (Below.refl _ _).alloc (Nat.le_refl _) _
   have ho1 : W1.ownsRow w.heap.size 31 65 (.slice (some ⟨w.heap.size, 0, none⟩) 0 0) 0 [] := by
    rw [← hW1]
    exact own_new w w.heap.size 31 65 0 [] (Nat.le_refl _) (by simp) (by unfold maxLen; omega)
   have HO1 := h_ ho1
   have HR1 := h_ (hr.below b1)
   have HB1 := h_ b1
   have HLN : Hid ((upsC us).length = n * 65) := h_ (by rw [upsC_len hk, hn])
   clear hn hr hk ho1 b1
   go_enter Tryz.func37, Tryz.ntmps37
   go_wp2_with (at_builtin; refine wpList_append_rd _ rfl _ _ 26 rfl w.heap.size 31 _ 65 80 Tryz.underlying26 info_up65 (by simp [Value.cells, b8s]) (by decide) (.slice (some ⟨w.heap.size, 0, none⟩) 0 0) 0 _ rfl HO1.out _ n _ (upsC us) rfl HLN.out HR1.out (upsC_one us) (by unfold maxLen; omega) (by omega) HB1.out.size ?_; intro v7 w7 ho7 hg7 hvb7; obtain ⟨A7, c7, e7, _⟩ := own_slice ho7; subst e7; have HO7 := h_ ho7; have HB7 : Hid (Below w.heap.size w w7) := h_ (below_grown_own HB1.out HO1.out hg7 HB1.out.size); clear ho7 hg7 hvb7)
   go_ret
   rw [Nat.zero_add, List.nil_append] at HO7
   exact ⟨A7, c7, rfl, HO7.out, HB7.out⟩
set_option maxRecDepth 100000 in
theorem log_any {N gr g : Nat} {w : World} {r : RfM} {q : QA} (h : RfIn N w gr g r q) (hk : RfOk r) (hl : r.log.length ≤ 1000000) :
  Calls Tryz.prog 12 #[.pointer (some ⟨gr, 0, none⟩)] w fun e w' => ∃ A' c', e = .returned (.slice A' r.log.length c') ∧ w'.ownsRow w.heap.size 31 65 (.slice A' r.log.length c') r.log.length (upsC r.log) ∧ Below w.heap.size w w' := by
 have c35 := (h.tail hk.al).1
 obtain ⟨A, c, hv, _⟩ := own_slice h.log
 have hlog := h.log
 rw [hv] at c35 hlog
 have HC := h_ (clone_up A r.log r.log.length c w rfl hk.log (own_rd hlog) hl)
 generalize r.log.length = n at *
 clear h hk hlog hv
 go_enter Tryz.func12, Tryz.ntmps12
 go_wp2_with fail
 refine HC.out.mono ?_
 rintro e w2 ⟨A', c', rfl, ho, hb⟩
 go_wp2_with fail
 go_ret
 exact ⟨A', c', rfl, ho, hb⟩
theorem z32_lit : (b8s Z32).toArray = #[Value.int .u8 0, .int .u8 0, .int .u8 0, .int .u8 0, .int .u8 0, .int .u8 0, .int .u8 0, .int .u8 0, .int .u8 0, .int .u8 0, .int .u8 0, .int .u8 0, .int .u8 0, .int .u8 0, .int .u8 0, .int .u8 0, .int .u8 0, .int .u8 0, .int .u8 0, .int .u8 0, .int .u8 0, .int .u8 0, .int .u8 0, .int .u8 0, .int .u8 0, .int .u8 0, .int .u8 0, .int .u8 0, .int .u8 0, .int .u8 0, .int .u8 0, .int .u8 0] := rfl
theorem id_eql (d e : List UInt8) (h : d.length = 32) (h' : e.length = 32) (w : World) : (binOp .eql 24 (.agg (b8s d).toArray) (.agg (b8s e).toArray)).run Tryz.prog w = .ok (.bool (decide (d = e))) w :=
 run_eql_ids (P := Tryz.prog) (t := 24) (e := 5) (n := 32) Tryz.underlying24 Tryz.underlying5 (by kernel_rfl) (by kernel_rfl) (by kernel_rfl) d e h h' w
theorem id_neq (d e : List UInt8) (h : d.length = 32) (h' : e.length = 32) (w : World) : (binOp .neq 24 (.agg (b8s d).toArray) (.agg (b8s e).toArray)).run Tryz.prog w = .ok (.bool (!decide (d = e))) w :=
 run_neq_ids (P := Tryz.prog) (t := 24) (e := 5) (n := 32) Tryz.underlying24 Tryz.underlying5 (by kernel_rfl) (by kernel_rfl) (by kernel_rfl) d e h h' w
theorem id_guard : Program.eqGuardType Tryz.prog Tryz.prog.depth 24 = false := by kernel_rfl
def txC (A : Option Addr) (n c : Nat) (t : TxM) : List Value := .slice A n c :: strV t.head :: b8s t.at_
structure TxOk (t : TxM) : Prop where
 al : t.at_.length = 32
 us : ∀ u ∈ t.us, upOk u
 hd : t.head.length ≤ 140737488355328
 ul : t.us.length ≤ 1000000
theorem txC_len {A : Option Addr} {n c : Nat} {t : TxM} (h : t.at_.length = 32) : (txC A n c t).length = 34 := by simp [txC, b8s_length, h]
theorem txC_one (A : Option Addr) (n c : Nat) (t : TxM) : ∀ v ∈ txC A n c t, v.oneCell' = true := by
 intro v hv
 simp only [txC, List.mem_cons] at hv
 rcases hv with rfl | rfl | hv
 ·rfl
 ·rfl
 ·exact b8s_one' _ v hv
theorem info_txl {A : Option Addr} {n c : Nat} {t : TxM} (h : t.at_.length = 32) : (Tryz.prog.info? 28).map (·.size) = some (txC A n c t).length := by
 rw [txC_len h]
 kernel_rfl
theorem info_txa {A : Option Addr} {n c : Nat} {t : TxM} (h : t.at_.length = 32) : (Tryz.prog.info? 28).map (·.size) = some (txC A n c t).toArray.size := by
 rw [List.size_toArray, txC_len h]
 kernel_rfl
theorem info_upl {u : UpM} (h : upOk u) : (Tryz.prog.info? 31).map (·.size) = some (upC u).length := by
 rw [upC_len h]
 kernel_rfl
theorem info_upa {u : UpM} (h : upOk u) : (Tryz.prog.info? 31).map (·.size) = some (upC u).toArray.size := by
 rw [List.size_toArray, upC_len h]
 kernel_rfl
set_option linter.unusedSectionVars false
section
variable {w : World} {g : Nat} {A : Option Addr} {n c : Nat} {t : TxM} {u : UpM}
theorem tx_cells (h : w.heap[g]? = some (.cells (txC A n c t).toArray 28 (0, 0))) : w.cell? ⟨g, 0, none⟩ = some (.slice A n c) ∧ w.cell? ⟨g, 1, none⟩ = some (strV t.head) ∧ w.rangeAt g 2 (b8s t.at_) := by
 refine ⟨by rw [row_cell h 0]; rfl, by rw [row_cell h 1]; rfl, fun j v hv => ?_⟩
 rw [row_cell h]
 simp only [txC, List.getElem?_toArray]
 rw [show 2 + j = (j + 1) + 1 by omega, List.getElem?_cons_succ, List.getElem?_cons_succ]
 exact hv
theorem up_cells (h : w.heap[g]? = some (.cells (upC u).toArray 31 (0, 0))) (hk : upOk u) : w.cell? ⟨g, 0, none⟩ = some (strV u.name) ∧ w.rangeAt g 1 (b8s u.old) ∧ w.rangeAt g 33 (b8s u.new) := by
 have hl : (b8s u.old).length = 32 := by rw [b8s_length, hk.1]
 refine ⟨by rw [row_cell h 0]; rfl, fun j v hv => ?_, fun j v hv => ?_⟩
 ·rw [row_cell h]
  have hj := (List.getElem?_eq_some_iff.1 hv).1
  simp only [upC, List.getElem?_toArray]
  rw [show 1 + j = j + 1 by omega, List.getElem?_cons_succ, List.getElem?_append_left hj]
  exact hv
 ·rw [row_cell h]
  simp only [upC, List.getElem?_toArray]
  rw [show 33 + j = (32 + j) + 1 by omega, List.getElem?_cons_succ, List.getElem?_append_right (by omega), hl, show 32 + j - 32 = j by omega]
  exact hv
end
set_option maxRecDepth 100000 in
set_option maxHeartbeats 2000000 in
theorem empty_any (A : Option Addr) (n c : Nat) (t : TxM) (hn : t.us.length = n) (hnl : n ≤ 1000000) (ht : t.at_.length = 32) (w : World) :
  Calls Tryz.prog 33 #[.agg (txC A n c t).toArray] w fun e w' => e = .returned (.bool (emptyT t)) ∧ Below w.heap.size w w' := by
 obtain ⟨g, hg⟩ := eX w.heap.size
 obtain ⟨W1, hW1⟩ := eX (w.alloc (.cells (txC A n c t).toArray 28))
 obtain ⟨r1, b1, s1⟩ := new_row hW1
 rw [hg] at r1
 obtain ⟨c0, c1, c2⟩ := tx_cells r1
 have HB1 := h_ b1
 have HC2 := h_ c2
 obtain ⟨X, hX, hXs⟩ : ∃ X : ByteArray, strV t.head = .string X ∧ X.data.toList = t.head := ⟨_, rfl, rfl⟩
 rw [hX] at c1
 have hem : X.toList.isEmpty = decide (t.head = []) := by
  rw [tl_data, hXs]
  cases t.head <;> rfl
 have HIA := h_ (info_idl t.at_ ht)
 have hz := id_eql t.at_ Z32 ht rfl
 have hgd := id_guard
 obtain ⟨lt, hlt⟩ := eX (txC A n c t)
 have he : emptyT t = (decide (n = 0) && decide (t.head = []) && decide (t.at_ = Z32)) := by
  unfold emptyT
  rw [show decide (t.us = []) = decide (n = 0) by rw [← hn, decide_eq_decide]; exact List.length_eq_zero_iff.symm]
 rw [he]
 obtain ⟨qh, hqh⟩ := eX (decide (t.head = []))
 obtain ⟨qa, hqa⟩ := eX (decide (t.at_ = Z32))
 rw [hqh] at hem ⊢
 rw [hqa] at hz ⊢
 rw [z32_lit] at hz
 obtain ⟨ia, hia⟩ := eX (b8s t.at_)
 rw [hia] at hz HC2 HIA
 rw [hlt] at hW1 ⊢
 clear hlt he hqh hqa hX hXs b1 r1 s1 c2 hia hn
 by_cases h0 : n = 0
 ·subst h0
  replace c0 : W1.cell? ⟨g, 0, none⟩ = some (.slice A 0 c) := c0
  cases qh with
  | true =>
    go_enter Tryz.func33, Tryz.ntmps33
    go_wp2_with ((with_reducible (refine wpList_load_cells 24 _ g 2 ia HC2.out Tryz.underlying24 rfl HIA.out ?_ rfl ?_ ?_)); exact rfl; (exact rfl))
    go_ret
    exact ⟨by cases qa <;> rfl, by first | exact HB1.out | (rw [← hg]; exact HB1.out)⟩
  | false =>
    go_enter Tryz.func33, Tryz.ntmps33
    go_wp2_with fail
    go_ret
    exact ⟨rfl, by first | exact HB1.out | (rw [← hg]; exact HB1.out)⟩
 ·have z0 : ((n : Int) == 0) = false := by rw [beq_eq_false_iff_ne]; omega
  go_enter Tryz.func33, Tryz.ntmps33
  go_wp2_with fail
  go_ret
  exact ⟨by rw [decide_eq_false h0]; rfl, by first | exact HB1.out | (rw [← hg]; exact HB1.out)⟩
theorem findA_del {α : Type} (ns : AL α) (s k : List UInt8) : findA (delA ns s) k = if k = s then none else findA ns k := by
 unfold findA delA
 induction ns with
 | nil => simp
 | cons p r ih =>
   by_cases hp : p.1 = s
   ·rw [List.filter_cons_of_neg (by simp [hp])]
    rw [ih]
    by_cases hk : k = s
    ·rw [if_pos hk, if_pos hk]
    ·rw [if_neg hk, if_neg hk, List.find?_cons]
     rw [show (p.1 == k) = false by rw [beq_eq_false_iff_ne, hp]; exact fun e => hk e.symm]
   ·rw [List.filter_cons_of_pos (by simp [hp])]
    rw [List.find?_cons]
    by_cases hpk : p.1 = k
    ·rw [show (p.1 == k) = true by rw [beq_iff_eq]; exact hpk]
     rw [if_neg (by rw [← hpk]; exact hp), List.find?_cons, show (p.1 == k) = true by rw [beq_iff_eq]; exact hpk]
    ·rw [show (p.1 == k) = false by rw [beq_eq_false_iff_ne]; exact hpk]
     rw [ih]
     by_cases hk : k = s
     ·rw [if_pos hk, if_pos hk]
     ·rw [if_neg hk, if_neg hk, List.find?_cons, show (p.1 == k) = false by rw [beq_eq_false_iff_ne]; exact hpk]
theorem findA_ins {α : Type} {ns : AL α} {x : List UInt8 × α} (hx : ∀ p ∈ ns, p.1 ≠ x.1) (k : List UInt8) : findA (insA x ns) k = if k = x.1 then some x.2 else findA ns k := by
 unfold findA
 induction ns with
 | nil =>
   by_cases hk : k = x.1
   ·rw [if_pos hk]; simp [insA, hk]
   ·rw [if_neg hk]
    simp only [insA, List.find?_cons, show (x.1 == k) = false by rw [beq_eq_false_iff_ne]; exact fun e => hk e.symm]
 | cons p r ih =>
   simp only [insA]
   split
   ·rw [List.find?_cons]
    by_cases hk : k = x.1
    ·rw [if_pos hk, show (x.1 == k) = true by rw [beq_iff_eq]; exact hk.symm]
     rfl
    ·rw [if_neg hk, show (x.1 == k) = false by rw [beq_eq_false_iff_ne]; exact fun e => hk e.symm]
   ·rw [List.find?_cons, List.find?_cons]
    have hp := hx p (by simp)
    by_cases hpk : p.1 = k
    ·rw [show (p.1 == k) = true by rw [beq_iff_eq]; exact hpk, if_neg (by rw [← hpk]; exact hp)]
    ·rw [show (p.1 == k) = false by rw [beq_eq_false_iff_ne]; exact hpk]
     exact ih (fun q hq => hx q (by simp [hq]))
theorem findA_put {α : Type} (ns : AL α) (s : List UInt8) (f : α) (k : List UInt8) : findA (putA ns s f) k = if k = s then some f else findA ns k := by
 unfold putA
 rw [findA_ins (fun p hp => (delA_mem.1 hp).2), findA_del]
 by_cases hk : k = s
 ·rw [if_pos hk, if_pos hk]
 ·rw [if_neg hk, if_neg hk, if_neg hk]
def metA (l : List (List UInt8)) : AL Unit := l.foldl (fun a s => putA a s ()) []
theorem metA_snoc (l : List (List UInt8)) (s : List UInt8) : metA (l ++ [s]) = putA (metA l) s () := by simp [metA]
theorem metG_find (l : List (List UInt8)) (k : List UInt8) : ∀ a : AL Unit, findA (l.foldl (fun a s => putA a s ()) a) k = if k ∈ l then some () else findA a k := by
 induction l with
 | nil => intro a; simp
 | cons s l ih =>
   intro a
   rw [List.foldl_cons, ih, findA_put]
   by_cases hk : k ∈ l
   ·rw [if_pos hk, if_pos (List.mem_cons_of_mem _ hk)]
   ·rw [if_neg hk]
    by_cases hs : k = s
    ·rw [if_pos hs, if_pos (by rw [hs]; exact List.mem_cons_self)]
    ·rw [if_neg hs, if_neg (by simp [hs, hk])]
theorem metA_find (l : List (List UInt8)) (k : List UInt8) : findA (metA l) k = if k ∈ l then some () else none := metG_find l k []
def metD : Unit → DataW Unit := fun _ => boolD true
theorem mlook_any {w : World} {b n : Nat} {l : List (List UInt8)} (h : w.ownsMap Tryz.prog 9 boolR b n (mapA metD (metA l))) (S : ByteArray) (hs : S.size ≤ maxLen) :
  (Instr.lookup 144 (.map (some b)) (.string S) false).run Tryz.prog w = .ok (.bool (decide (S.data.toList ∈ l))) w := by
 obtain ⟨v, ps, hr, hR⟩ := h.lookup keyed_str Tryz.underlying144 (z := .bool false) (by kernel_rfl) (zd := boolD false) (zp := []) rfl (key := .string S) (kl := .string S.data.toList) (WideMaps.keyOf_string_mk Tryz.underlying9 hs)
 have hv : v = .bool (decide (S.data.toList ∈ l)) := by
  rw [mapA_at, metA_find] at hR
  by_cases hm : S.data.toList ∈ l
  ·rw [if_pos hm] at hR
   rw [decide_eq_true hm]
   exact boolR_inv hR
  ·rw [if_neg hm] at hR
   rw [decide_eq_false hm]
   exact boolR_inv hR
 rw [hr, hv]
theorem exec_lookup {P : Program} {a : Act} {o : Oper} {w : World} (T : TypeId) (x y : Operand) (ho : o.op = .lookup T x y false) (X Y V : Value) (hx : a.eval x = X) (hy : a.eval y = Y) (h : (Instr.lookup T X Y false).run P w = .ok V w) : (execOp a.eval o).run P w = .ok (.value V) w := by
 simp [execOp, ho, hx, hy, h]
def upZ : List Value := .string ⟨#[]⟩ :: b8s (List.replicate 64 0)
theorem upZ_eq : Tryz.zeroCells31 = upZ.toArray := by kernel_rfl
theorem put_rowR {w : World} {g : Nat} {old new : List Value} {t : TypeId} (h : w.heap[g]? = some (.cells old.toArray t (0, 0))) (hl : new.length = old.length) :
  ∃ W, w.setCells g 0 new.toArray.toList = W ∧ Hid (w.there g 0 new.toArray.size) ∧ Hid (W.heap[g]? = some (.cells new.toArray t (0, 0))) ∧ Hid (w.grownBy W (some g)) := by
 have hs : new.toArray.size = old.toArray.size := by simp [hl]
 exact ⟨_, rfl, h_ (by rw [hs]; exact there_of_row h), h_ (row_setAll h hl.symm), h_ (setCells_grown _ _ _ _)⟩
def Stop (p : Prop) : Prop := p
theorem Stop.out {p : Prop} (h : Stop p) : p := h
theorem Stop.mk {p : Prop} (h : p) : Stop p := h
theorem chkUs_step {all : AL (List UInt8)} {met : List (List UInt8)} {us : List UpM} {i : Nat} (hi : i < us.length) :
  chkUs all met (us.drop i) = if chkU all met us[i] = 0 then chkUs all (met ++ [us[i].name]) (us.drop (i + 1)) else chkU all met us[i] := by
 rw [List.drop_eq_getElem_cons hi]
 rfl
set_option maxRecDepth 100000 in
set_option maxHeartbeats 8000000 in
theorem check_any {N gr g : Nat} {w : World} {r : RfM} {q : QA} (h : RfIn N w gr g r q) (hk : RfOk r) (A : Option Addr) (n c : Nat) (t : TxM) (hn : t.us.length = n) (ht : TxOk t) (hr : Rd w A (upsC t.us)) :
  Calls Tryz.prog 30 #[.pointer (some ⟨gr, 0, none⟩), .agg (txC A n c t).toArray] w fun e w' => e = .returned (.int .i64 (checkR r t)) ∧ Below w.heap.size w w' := by
 have H := h_ h
 have HKR := h_ hk
 have HN := h_ hn
 have HT := h_ ht
 have HR := h_ hr
 have hnl : n ≤ 1000000 := by have := ht.ul; omega
 obtain ⟨g1, hg⟩ := eX w.heap.size
 have HG1 := h_ hg
 obtain ⟨W1, hW1⟩ := eX (w.alloc (.cells (txC A n c t).toArray 28))
 obtain ⟨r1, b1, s1⟩ := new_row hW1
 rw [hg] at r1
 have R1 := h_ r1
 have HB1 := h_ b1
 obtain ⟨X, hX, hXs⟩ : ∃ X : ByteArray, strV t.head = .string X ∧ X.data.toList = t.head := ⟨_, rfl, rfl⟩
 have HX := h_ hX
 have HXS := h_ hXs
 obtain ⟨lt, hlt⟩ := eX (txC A n c t)
 rw [hlt] at hW1 ⊢
 have c0 : W1.cell? ⟨g1, 0, none⟩ = some (.slice A n c) := (tx_cells r1).1
 obtain ⟨z, hz⟩ := eX (checkR r t)
 have HZ := h_ hz
 rw [hz]
 clear h hk hn ht hr b1 s1 r1 hX hXs hlt hz
 by_cases h64 : 64 < n
 ·have i1 : (64 : Int) < (n : Int) := by omega
  obtain rfl : z = 3 := by rw [← HZ.out]; unfold checkR; rw [HN.out, if_pos h64]
  go_enter Tryz.func30, Tryz.ntmps30
  go_wp2_with fail
  go_ret
  exact ⟨rfl, by first | exact HB1.out | (rw [← hg]; exact HB1.out)⟩
 have i1 : ¬ ((64 : Int) < (n : Int)) := by omega
 have HZ2 : Hid (z = if chkUs r.all [] t.us ≠ 0 then chkUs r.all [] t.us else if t.head ≠ [] ∧ branchB t.head = false then 100 else 0) := h_ (by rw [← HZ.out]; unfold checkR; rw [HN.out, if_neg h64])
 have hmm := @run_makeMap Tryz.prog
 obtain ⟨mb, hmb⟩ := eX W1.heap.size
 obtain ⟨W2, hW2⟩ := eX (W1.alloc (.map #[] 0))
 have hb2 : Below W1.heap.size W1 W2 := by rw [← hW2]; exact (Below.refl _ _).alloc (Nat.le_refl _) _
 have HB2 := h_ hb2
 have HMB := h_ hmb
 have HM2 : Hid (W2.ownsMap Tryz.prog 9 boolR mb 0 (mapA metD (metA []))) := h_ (by rw [← hW2, ← hmb]; exact World.ownsMap_made W1 _ _ _)
 have c2 : W2.cell? ⟨g1, 0, none⟩ = some (.slice A n c) := cell_below c0 (World.block_lt_of_cell? W1 _ c0) hb2
 have HR2 : Hid (∀ W, Below W1.heap.size W1 W → Rd W A (upsC t.us) ∧ RfIn N W gr g r q ∧ W.heap[g1]? = some (.cells (txC A n c t).toArray 28 (0, 0))) := h_ (fun W hb => by
  have hbw := HB1.out.trans (hb.mono HB1.out.size)
  exact ⟨HR.out.below hbw, H.out.below hbw, (hb.block _ (b_ R1)).trans R1.out⟩)
 clear hb2
 go_enter Tryz.func30, Tryz.ntmps30
 go_wp2_with fail
 try rw [hg]
 try rw [hmb]
 clear hW1 hW2 c0 c2 hmb hmm
 go_loopg [16] (n * 1) (fun gk_ iv wr => ∃ (i : Nat) (met : List (List UInt8)), i ≤ n ∧ gk_ = n - i ∧ iv = .int .i64 (i : Int) ∧ Hid (met.length = i) ∧ Hid (Below W1.heap.size W1 wr) ∧ Hid (wr.ownsMap Tryz.prog 9 boolR mb i (mapA metD (metA met))) ∧ Hid (chkUs r.all met (t.us.drop i) = chkUs r.all [] t.us))
 case atStart => exact ⟨0, [], by omega, by omega, rfl, h_ rfl, HB2, HM2, h_ rfl⟩
 case round =>
 clear HB2 HM2
 obtain ⟨i, met, hi, rfl, rfl, HML, HB, HM, HC⟩ := hrel
 by_cases hlt : i < n
 ·have j1 : (i : Int) < (n : Int) := by omega
  have hil : i < t.us.length := by rw [HN.out]; exact hlt
  obtain ⟨u, hu⟩ := eX (t.us[i])
  have HOK : Hid (upOk u) := h_ (HT.out.us u (by rw [← hu]; exact List.getElem_mem hil))
  have hrd := (HR2.out _ HB.out).1
  obtain ⟨b, o, hA, _⟩ := hrd.all (by rw [upsC_len HT.out.us, HN.out]; omega)
  rw [hA] at hrd
  have hrow := rd_flat (f := upC) (m := 65) hrd (fun x hx => upC_len (HT.out.us x hx)) i hil
  rw [hu] at hrow
  have HST : Hid (chkUs r.all met (t.us.drop i) = if chkU r.all met u = 0 then chkUs r.all (met ++ [u.name]) (t.us.drop (i + 1)) else chkU r.all met u) := h_ (by rw [chkUs_step hil, hu])
  have HRW := h_ hrow
  have HA := h_ hA
  rw [hA]
  have HIL := h_ (info_upl HOK.out)
  have HIA := h_ (info_upa HOK.out)
  have HOC : Hid ((upC u).toArray.all (·.oneCell') = true) := h_ (all_oneCell_toArray (upC_one u))
  obtain ⟨gu, hgu⟩ := eX wr.heap.size
  obtain ⟨WA, hWA⟩ := eX (wr.alloc (.cells Tryz.zeroCells31 31))
  obtain ⟨rA, bA, sA⟩ := new_row hWA
  rw [hgu, upZ_eq] at rA
  obtain ⟨WB, hWB, TB, RB, GB⟩ := put_rowR (new := upC u) rA (by rw [upC_len HOK.out]; rfl)
  have HWB := h_ hWB
  have BB : Hid (Below wr.heap.size wr WB) := h_ (bel_grown bA bA.size GB.out (by omega))
  have BB1 : Hid (Below W1.heap.size W1 WB) := h_ (HB.out.trans (BB.out.mono HB.out.size))
  have HMU : Hid (WB.ownsMap Tryz.prog 9 boolR mb i (mapA metD (metA met))) := h_ (by
   obtain ⟨es, clock, h1, h2⟩ := HM.out
   exact ⟨es, clock, (BB.out.block _ HM.out.lt).trans h1, h2⟩)
  obtain ⟨Y, hY, hYs⟩ : ∃ Y : ByteArray, strV u.name = .string Y ∧ Y.data.toList = u.name := ⟨_, rfl, rfl⟩
  have hYm : Y.size ≤ 140737488355328 := by
   have h1 := size_toList Y
   rw [hYs] at h1
   have := HOK.out.2.2
   omega
  have HYS := h_ hYs
  have HUC : Hid (∀ W : World, W.heap[gu]? = some (.cells (upC u).toArray 31 (0, 0)) → W.cell? ⟨gu, 0, none⟩ = some (.string Y) ∧ W.rangeAt gu 1 (b8s u.old) ∧ W.rangeAt gu 33 (b8s u.new)) := h_ (fun W hw => by
   have h1 := up_cells hw HOK.out
   rw [hY] at h1
   exact h1)
  have cu0 : WB.cell? ⟨gu, 0, none⟩ = some (.string Y) := (HUC.out _ RB.out).1
  have HVD := h_ (valid_any Y (by omega) WB)
  rw [hYs] at HVD
  obtain ⟨la, hla⟩ := eX (upC u)
  rw [hla] at HRW HIL HIA HOC HWB TB
  clear hil hu hrd hA hrow rA bA sA hWB hY hYs hla
  obtain ⟨vb, hvb⟩ := eX (validB u.name)
  have HVB := h_ hvb
  rw [hvb] at HVD
  clear hvb
  cases vb with
  | false =>
    have HF : Hid (z = 100) := h_ (by
     have h1 : chkU r.all met u = 100 := by unfold chkU; rw [if_pos HVB.out]
     have h2 := HC.out
     rw [HST.out, h1, if_neg (by decide)] at h2
     rw [HZ2.out, ← h2, if_pos (by decide)])
    go_wp2_with (first
     | ((with_reducible (refine wpList_load_cells 31 _ b (o + i * 65) (la) HRW.out Tryz.underlying31 rfl HIL.out ?_ rfl ?_ ?_)); exact rfl; (exact rfl))
     | ((with_reducible (refine wpList_store_mid rfl _ _ _ rfl ?_ ?_ ?_ ?_ ?_ ?_ ?_ ?_ ?_)); exact gu; exact 0; (exact (la).toArray); exact rfl; exact rfl; exact TB.out; exact HIA.out; exact HOC.out; rw [HWB.out]))
    refine HVD.out.mono ?_
    rintro e w3 ⟨rfl, hb3⟩
    have B3 := bt_ BB1 hb3
    clear hb3
    go_wp2_with fail
    go_ret
    exact ⟨by rw [HF.out]; rfl, by first | exact HB1.out.trans (B3.out.mono HB1.out.size) | (rw [← hg]; exact HB1.out.trans (B3.out.mono HB1.out.size))⟩
  | true =>
    obtain ⟨mq, hmq⟩ := eX (decide (u.name ∈ met))
    have HMQ := h_ hmq
    have HLK : Hid (∀ W, Below WB.heap.size WB W → (Instr.lookup 144 (.map (some mb)) (.string Y) false).run Tryz.prog W = .ok (.bool mq) W) := h_ (fun W hb => by
     have h1 : W.ownsMap Tryz.prog 9 boolR mb i (mapA metD (metA met)) := by
      obtain ⟨es, clock, h1, h2⟩ := HMU.out
      exact ⟨es, clock, (hb.block _ HMU.out.lt).trans h1, h2⟩
     have h2 := mlook_any h1 Y (by unfold maxLen; omega)
     rw [HYS.out, hmq] at h2
     exact h2)
    clear hmq
    cases mq with
    | true =>
      have HF : Hid (z = 5) := h_ (by
       have h1 : chkU r.all met u = 5 := by unfold chkU; rw [if_neg (by rw [HVB.out]; decide), if_pos (of_decide_eq_true HMQ.out)]
       have h2 := HC.out
       rw [HST.out, h1, if_neg (by decide)] at h2
       rw [HZ2.out, ← h2, if_pos (by decide)])
      go_wp2_with (first
       | ((with_reducible (refine wpList_load_cells 31 _ b (o + i * 65) (la) HRW.out Tryz.underlying31 rfl HIL.out ?_ rfl ?_ ?_)); exact rfl; (exact rfl))
       | ((with_reducible (refine wpList_store_mid rfl _ _ _ rfl ?_ ?_ ?_ ?_ ?_ ?_ ?_ ?_ ?_)); exact gu; exact 0; (exact (la).toArray); exact rfl; exact rfl; exact TB.out; exact HIA.out; exact HOC.out; rw [HWB.out]))
      refine HVD.out.mono ?_
      rintro e w3 ⟨rfl, hb3⟩
      have B3 := bt_ BB1 hb3
      have hlk := HLK.out w3 hb3
      have cu3 : w3.cell? ⟨gu, 0, none⟩ = some (.string Y) := cell_below cu0 (World.block_lt_of_cell? WB _ cu0) hb3
      clear hb3
      go_wp2_with fail
      go_ret
      exact ⟨by rw [HF.out]; rfl, by first | exact HB1.out.trans (B3.out.mono HB1.out.size) | (rw [← hg]; exact HB1.out.trans (B3.out.mono HB1.out.size))⟩
    | false =>
      obtain ⟨id, hid⟩ := eX (getA r.all u.name)
      have hidl : id.length = 32 := by rw [← hid]; exact getA_len HKR.out.ids _
      obtain ⟨ne, hne⟩ := eX ((!decide (id = u.old)))
      have HNE := h_ hne
      have HID := h_ hid
      have HIDL := h_ (info_idl u.old HOK.out.1)
      obtain ⟨lo, hlo⟩ := eX (b8s u.old)
      have HLO := h_ hlo
      have HNQ : Hid (∀ w : World, (binOp .neq 24 (.agg (b8s id).toArray) (.agg lo.toArray)).run Tryz.prog w = .ok (.bool ne) w) := h_ (fun w => by have h1 := id_neq id u.old hidl HOK.out.1 w; rw [hne, hlo] at h1; exact h1)
      rw [hlo] at HIDL
      clear hid hidl hlo hne
      cases ne with
      | true =>
        have HF : Hid (z = 101) := h_ (by
         have h0 : id ≠ u.old := by
          intro e
          have h9 := HNE.out
          rw [e] at h9
          simp at h9
         have h1 : chkU r.all met u = 101 := by unfold chkU; rw [if_neg (by rw [HVB.out]; decide), if_neg (of_decide_eq_false HMQ.out), if_pos (by rw [HID.out]; exact h0)]
         have h2 := HC.out
         rw [HST.out, h1, if_neg (by decide)] at h2
         rw [HZ2.out, ← h2, if_pos (by decide)])
        go_wp2_with (first
         | ((with_reducible (refine wpList_load_cells 31 _ b (o + i * 65) (la) HRW.out Tryz.underlying31 rfl HIL.out ?_ rfl ?_ ?_)); exact rfl; (exact rfl))
         | ((with_reducible (refine wpList_store_mid rfl _ _ _ rfl ?_ ?_ ?_ ?_ ?_ ?_ ?_ ?_ ?_)); exact gu; exact 0; (exact (la).toArray); exact rfl; exact rfl; exact TB.out; exact HIA.out; exact HOC.out; rw [HWB.out]))
        refine HVD.out.mono ?_
        rintro e w3 ⟨rfl, hb3⟩
        have B3 := bt_ BB1 hb3
        have hlk := HLK.out w3 hb3
        have R3u : Hid (w3.heap[gu]? = some (.cells (upC u).toArray 31 (0, 0))) := bl_ hb3 RB
        have HMU3 : Hid (w3.drew.ownsMap Tryz.prog 9 boolR mb i (mapA metD (metA met))) := h_ (by
         obtain ⟨es, clock, h1, h2⟩ := HMU.out
         exact ⟨es, clock, (hb3.block _ HMU.out.lt).trans h1, h2⟩)
        have cu3 : w3.cell? ⟨gu, 0, none⟩ = some (.string Y) := (HUC.out _ R3u.out).1
        have HU1 : Hid (w3.rangeAt gu 1 lo) := h_ (by have h1 := (HUC.out _ R3u.out).2.1; rw [HLO.out] at h1; exact h1)
        have hrf := (HR2.out _ B3.out).2.1
        have cr1 : w3.cell? ⟨gr, 1, none⟩ = some (.map (some q.mb)) := hrf.cells.2.1
        have HRM : Hid (Hid (w3.ownsMap Tryz.prog 9 idR q.mb r.all.length (mapA idD r.all))) := h_ (h_ hrf.map)
        clear hb3 hrf
        go_wp2_with fail
        refine wp_region_sched (fun w' => w'.cell? ⟨gr, 1, none⟩ = some (.map (some q.mb)) ∧ w'.cell? ⟨gu, 0, none⟩ = some (.string Y) ∧ w'.rangeAt gu 1 lo ∧ Hid (w'.ownsMap Tryz.prog 9 idR q.mb r.all.length (mapA idD r.all))) [(true, 0), (true, 1), (true, 2), (true, 3), (true, 4), (true, 5), (true, 6), (true, 7), (true, 8), (true, 9), (true, 10)] (by kernel_rfl) (by kernel_rfl) rfl (by kernel_rfl) ⟨cr1, cu3, HU1.out, HRM.out⟩ ?_
        iterate 6 ((first | refine wpS_pass _ rfl (by rfl) ?_ | (refine wpS_take _ ?_ rfl (by rfl) ?_ ?_; rotate_left; (focus (intro w' hS'; (try dsimp only at hS'); (repeat (have hS1 := hS'.1; replace hS' := hS'.2)); go_simp; (try with_reducible rfl); done)))); simp only [LY])
        refine wpS_take _ (.agg (b8s id).toArray) rfl (by rfl) (fun w' hS' => exec_lookup _ _ _ rfl _ _ _ rfl rfl (by have h1 := rlook_any hS'.2.2.2.out Y (by unfold maxLen; omega); rw [HYS.out, HID.out] at h1; exact h1)) ?_
        simp only [LY]
        ((first | refine wpS_pass _ rfl (by rfl) ?_ | (refine wpS_take _ ?_ rfl (by rfl) ?_ ?_; rotate_left; (focus (intro w' hS'; (try dsimp only at hS'); (repeat (have hS1 := hS'.1; replace hS' := hS'.2)); go_simp; (try with_reducible rfl); done)))); simp only [LY])
        refine wpS_load _ rfl (by rfl) 24 _ rfl gu 1 rfl lo _ (fun w' hS => hS.2.2.1) Tryz.underlying24 rfl HIDL.out ?_
        simp only [LY]
        refine wpS_take _ (.bool true) rfl (by rfl) (fun w' hS' => exec_bin _ _ _ _ _ rfl _ _ _ rfl rfl (run_eqGuard_agg w' _ _ _ _ _ _ id_guard) (HNQ.out w')) ?_
        simp only [LY]
        ((first | refine wpS_pass _ rfl (by rfl) ?_ | (refine wpS_take _ ?_ rfl (by rfl) ?_ ?_; rotate_left; (focus (intro w' hS'; (try dsimp only at hS'); (repeat (have hS1 := hS'.1; replace hS' := hS'.2)); go_simp; (try with_reducible rfl); done)))); simp only [LY])
        refine wpS_done ?_
        go_wp2_with fail
        go_ret
        exact ⟨by rw [HF.out]; rfl, by first | exact HB1.out.trans (B3.out.drew.mono HB1.out.size) | (rw [← hg]; exact HB1.out.trans (B3.out.drew.mono HB1.out.size))⟩
      | false =>
        have HS : Hid (chkUs r.all (met ++ [u.name]) (t.us.drop (i + 1)) = chkUs r.all [] t.us) := h_ (by
         have h0 : id = u.old := by
          have h9 := HNE.out
          simpa using h9
         have h1 : chkU r.all met u = 0 := by unfold chkU; rw [if_neg (by rw [HVB.out]; decide), if_neg (of_decide_eq_false HMQ.out), if_neg (by rw [HID.out, h0]; simp)]
         have h2 := HC.out
         rw [HST.out, if_pos h1] at h2
         exact h2)
        have HKY := h_ (WideMaps.keyOf_string_mk (P := Tryz.prog) Tryz.underlying9 (s := Y) (by unfold maxLen; omega))
        go_wp2_with (first
         | ((with_reducible (refine wpList_load_cells 31 _ b (o + i * 65) (la) HRW.out Tryz.underlying31 rfl HIL.out ?_ rfl ?_ ?_)); exact rfl; (exact rfl))
         | ((with_reducible (refine wpList_store_mid rfl _ _ _ rfl ?_ ?_ ?_ ?_ ?_ ?_ ?_ ?_ ?_)); exact gu; exact 0; (exact (la).toArray); exact rfl; exact rfl; exact TB.out; exact HIA.out; exact HOC.out; rw [HWB.out]))
        refine HVD.out.mono ?_
        rintro e w3 ⟨rfl, hb3⟩
        have B3 := bt_ BB1 hb3
        have hlk := HLK.out w3 hb3
        have R3u : Hid (w3.heap[gu]? = some (.cells (upC u).toArray 31 (0, 0))) := bl_ hb3 RB
        have HMU3 : Hid (w3.drew.ownsMap Tryz.prog 9 boolR mb i (mapA metD (metA met))) := h_ (by
         obtain ⟨es, clock, h1, h2⟩ := HMU.out
         exact ⟨es, clock, (hb3.block _ HMU.out.lt).trans h1, h2⟩)
        have cu3 : w3.cell? ⟨gu, 0, none⟩ = some (.string Y) := (HUC.out _ R3u.out).1
        have HU1 : Hid (w3.rangeAt gu 1 lo) := h_ (by have h1 := (HUC.out _ R3u.out).2.1; rw [HLO.out] at h1; exact h1)
        have hrf := (HR2.out _ B3.out).2.1
        have cr1 : w3.cell? ⟨gr, 1, none⟩ = some (.map (some q.mb)) := hrf.cells.2.1
        have HRM : Hid (Hid (w3.ownsMap Tryz.prog 9 idR q.mb r.all.length (mapA idD r.all))) := h_ (h_ hrf.map)
        clear hb3 hrf
        go_wp2_with fail
        refine wp_region_sched (fun w' => w'.cell? ⟨gr, 1, none⟩ = some (.map (some q.mb)) ∧ w'.cell? ⟨gu, 0, none⟩ = some (.string Y) ∧ w'.rangeAt gu 1 lo ∧ Hid (w'.ownsMap Tryz.prog 9 idR q.mb r.all.length (mapA idD r.all))) [(true, 0), (true, 1), (true, 2), (true, 3), (true, 4), (true, 5), (true, 6), (true, 7), (true, 8), (true, 9), (true, 10)] (by kernel_rfl) (by kernel_rfl) rfl (by kernel_rfl) ⟨cr1, cu3, HU1.out, HRM.out⟩ ?_
        iterate 6 ((first | refine wpS_pass _ rfl (by rfl) ?_ | (refine wpS_take _ ?_ rfl (by rfl) ?_ ?_; rotate_left; (focus (intro w' hS'; (try dsimp only at hS'); (repeat (have hS1 := hS'.1; replace hS' := hS'.2)); go_simp; (try with_reducible rfl); done)))); simp only [LY])
        refine wpS_take _ (.agg (b8s id).toArray) rfl (by rfl) (fun w' hS' => exec_lookup _ _ _ rfl _ _ _ rfl rfl (by have h1 := rlook_any hS'.2.2.2.out Y (by unfold maxLen; omega); rw [HYS.out, HID.out] at h1; exact h1)) ?_
        simp only [LY]
        ((first | refine wpS_pass _ rfl (by rfl) ?_ | (refine wpS_take _ ?_ rfl (by rfl) ?_ ?_; rotate_left; (focus (intro w' hS'; (try dsimp only at hS'); (repeat (have hS1 := hS'.1; replace hS' := hS'.2)); go_simp; (try with_reducible rfl); done)))); simp only [LY])
        refine wpS_load _ rfl (by rfl) 24 _ rfl gu 1 rfl lo _ (fun w' hS => hS.2.2.1) Tryz.underlying24 rfl HIDL.out ?_
        simp only [LY]
        refine wpS_take _ (.bool false) rfl (by rfl) (fun w' hS' => exec_bin _ _ _ _ _ rfl _ _ _ rfl rfl (run_eqGuard_agg w' _ _ _ _ _ _ id_guard) (HNQ.out w')) ?_
        simp only [LY]
        ((first | refine wpS_pass _ rfl (by rfl) ?_ | (refine wpS_take _ ?_ rfl (by rfl) ?_ ?_; rotate_left; (focus (intro w' hS'; (try dsimp only at hS'); (repeat (have hS1 := hS'.1; replace hS' := hS'.2)); go_simp; (try with_reducible rfl); done)))); simp only [LY])
        refine wpS_done ?_
        go_wp2_with (at_mapUpdate; refine wpList_mapUpdate_in _ rfl _ _ _ 144 rfl 9 4 keyed_str Tryz.underlying144 boolR mb i _ rfl HMU3.out (by unfold maxLen; omega) _ _ _ rfl rfl HKY.out (boolD true) [] rfl ?_; intro w5 ho5 hm5; have HO5 := h_ ho5; have HM5 := h_ hm5.grown; clear ho5 hm5)
        rw [← HA.out]
        clear hlk cu3 cr1 cu0
        go_roundg (n - (i + 1))
        case measure => omega
        case rel => exact ⟨i + 1, met ++ [u.name], by omega, rfl, by first | rfl | exact congrArg (Value.int .i64) (by omega) | go_num, h_ (by rw [List.length_append, HML.out]; rfl), h_ (bel_grown B3.out.drew B3.out.size HM5.out (by have := HMB.out; omega)), h_ (by
         have h1 := HO5.out
         rw [HYS.out] at h1
         have h2 := mapA_put metD (metA met) u.name ()
         rw [metA_snoc, ← h2]
         exact h1), HS⟩
 ·obtain rfl : i = n := by omega
  have HCZ : Hid (z = if t.head ≠ [] ∧ branchB t.head = false then 100 else 0) := h_ (by
   have h1 := HC.out
   rw [List.drop_eq_nil_of_le (by rw [HN.out]; exact Nat.le_refl _)] at h1
   have h2 : chkUs r.all [] t.us = 0 := h1.symm
   rw [HZ2.out, h2, if_neg (by simp)])
  have hrow := (HR2.out _ HB.out).2.2
  have c1 : wr.cell? ⟨g1, 1, none⟩ = some (.string X) := by rw [← HX.out]; exact (tx_cells hrow).2.1
  have hXm : X.size ≤ 140737488355328 := by
   have h1 := size_toList X
   rw [HXS.out] at h1
   have := HT.out.hd
   omega
  clear hrow
  by_cases hh : t.head = []
  ·have hem : X.toList.isEmpty = true := by rw [tl_data, HXS.out, hh]; rfl
   have HF : Hid (z = 0) := h_ (by rw [HCZ.out, if_neg (by simp [hh])])
   clear hh
   go_wp2_with fail
   go_ret
   exact ⟨by rw [HF.out]; rfl, by first | exact HB1.out.trans (HB.out.mono HB1.out.size) | (rw [← hg]; exact HB1.out.trans (HB.out.mono HB1.out.size))⟩
  ·have hem : X.toList.isEmpty = false := by rw [tl_data, HXS.out, List.isEmpty_eq_false_iff]; exact hh
   have HBR := h_ (branch_any X (by omega) wr)
   rw [HXS.out] at HBR
   obtain ⟨bb, hbb⟩ := eX (branchB t.head)
   have HBB := h_ hbb
   have HHD := h_ hh
   rw [hbb] at HBR
   clear hbb hh
   cases bb with
   | true =>
     have HF : Hid (z = 0) := h_ (by rw [HCZ.out, if_neg (by simp [HBB.out])])
     go_wp2_with fail
     refine HBR.out.mono ?_
     rintro e w5 ⟨rfl, hb5⟩
     have B5 : Hid (Below w.heap.size w w5) := h_ (HB1.out.trans ((HB.out.trans (hb5.mono HB.out.size)).mono HB1.out.size))
     clear hb5
     go_wp2_with fail
     go_ret
     exact ⟨by rw [HF.out]; rfl, by first | exact B5.out | (rw [← hg]; exact B5.out)⟩
   | false =>
     have HF : Hid (z = 100) := h_ (by rw [HCZ.out, if_pos ⟨HHD.out, HBB.out⟩])
     go_wp2_with fail
     refine HBR.out.mono ?_
     rintro e w5 ⟨rfl, hb5⟩
     have B5 : Hid (Below w.heap.size w w5) := h_ (HB1.out.trans ((HB.out.trans (hb5.mono HB.out.size)).mono HB1.out.size))
     clear hb5
     go_wp2_with fail
     go_ret
     exact ⟨by rw [HF.out]; rfl, by first | exact B5.out | (rw [← hg]; exact B5.out)⟩
section
variable {P : Program} {o : Oper} {a : Act} {w : World} {K : Act → World → Prop} {Q : Exit → Act → World → Prop}
theorem wp_build1 (t e : TypeId) (x : Operand) (ho : o.op = .buildSlice t 1 #[(0, x)]) (cs : List Value) (hx : a.eval x = .agg cs.toArray)
  (hu : P.underlying t = some (.slice e)) (hi : (P.info? e).map (fun i => (i.size, i.zero.isSome)) = some (cs.length, true)) (hpos : 0 < cs.length) (hs : cs.length ≤ 2 ^ 24)
  (h : K (a.put o.dst (.slice (some ⟨w.heap.size, 0, none⟩) 1 1)) (w.alloc (.cells cs.toArray e))) : o.wp P a w K Q := by
 cases hie : P.info? e with
 | none => simp [hie] at hi
 | some ie =>
   simp only [hie, Option.map_some, Option.some.injEq, Prod.mk.injEq] at hi
   obtain ⟨z, hz⟩ := Option.isSome_iff_exists.1 hi.2
   refine wp_buildSlice t e 1 #[(0, x)] ho cs.toArray ie z hu hie hz (by rw [hi.1]; omega) (by rw [hi.1]; omega) ?_ h
   have e1 : (#[(0, x)].map fun (i, x) => (i, a.eval x)).toList = [(0, .agg cs.toArray)] := by simp [hx]
   rw [e1]
   obtain ⟨q, hq⟩ : ∃ q : List Value, ((Array.range (1 * ie.size)).map (z.cells[· % z.cells.size]!)) = ([] ++ q ++ []).toArray := ⟨((Array.range (1 * ie.size)).map (z.cells[· % z.cells.size]!)).toList, by rw [List.nil_append, List.append_nil, Array.toArray_toList]⟩
   have hql : q.length = cs.length := by
    have := congrArg Array.size hq
    simp at this
    omega
   rw [hq, fill_one _ [] q [] cs [] 0 (by simp [hi.1]) hql]
   simp [Instr.fill]
theorem wp_mapUpdate_in {H : Type} (m x v : Operand) (t : TypeId) (hop : o.op = Op.mapUpdate t m x v)
  (k e : TypeId) (KK : Maps.Keyed P k) (ht : P.underlying t = some (.map k e)) (R : Value → Option (DataW H × List MemPlace)) (b n : Nat) (D : DataW H)
  (hm : a.eval m = .map (some b)) (hown : w.ownsMap P k R b n D) (hn : n < maxLen) (key val : Value) (kl : Lit) (hx : a.eval x = key) (hv : a.eval v = val) (hkey : keyOf P k key = some kl)
  (d : DataW H) (ps : List MemPlace) (hval : R val = some (d, ps))
  (hK : ∀ w', w'.ownsMap P k R b (n + 1) (D.put kl d) → w.mapTurned w' b → K (a.put o.dst undef) w') : o.wp P a w K Q := by
 obtain ⟨w', hrun, r1, r2⟩ := hown.store KK ht hn hkey hval
 unfold Oper.wp
 simp [execOp, hop, hm, hx, hv, hrun, Result.andThen]
 exact hK w' r1 r2
theorem wp_delete_own {H : Type} (m x : Operand) (t k : TypeId) (hop : o.op = Op.call { callee := Callee.builtin Builtin.delete, args := #[m, x], argTypes := #[t, k] })
  (e : TypeId) (KK : Maps.Keyed P k) (ht : P.underlying t = some (.map k e)) (R : Value → Option (DataW H × List MemPlace)) (b n : Nat) (D : DataW H)
  (hm : a.eval m = .map (some b)) (hown : w.ownsMap P k R b n D) (key : Value) (kl : Lit) (hx : a.eval x = key) (hkey : keyOf P k key = some kl)
  (hK : ∀ w', w'.ownsMap P k R b n (D.del kl) → w.mapTurned w' b → K (a.put o.dst (.tuple #[])) w') : o.wp P a w K Q := by
 obtain ⟨w', hrun, r1, r2⟩ := hown.drop KK ht hkey o.type
 unfold Oper.wp
 simp [execOp, hop, resolve, invoke, builtin, hm, hx, hrun, Result.andThen]
 exact hK w' r1 r2
end
theorem updA_len (all : AL (List UInt8)) (u : UpM) : (updA all u).length ≤ all.length + 1 := by
 unfold updA
 have h1 := putA_length all u.name u.new
 split
 ·have := delA_length (putA all u.name u.new) u.name
  omega
 ·exact h1
theorem foldU_len (us : List UpM) : ∀ all : AL (List UInt8), (us.foldl updA all).length ≤ all.length + us.length := by
 induction us with
 | nil => intro all; simp
 | cons u us ih =>
   intro all
   have h1 := ih (updA all u)
   have h2 := updA_len all u
   rw [List.foldl_cons, List.length_cons]
   omega
theorem updA_ids {all : AL (List UInt8)} {u : UpM} (h : ∀ p ∈ all, p.2.length = 32) (hu : u.new.length = 32) : ∀ p ∈ updA all u, p.2.length = 32 := by
 have h1 : ∀ p ∈ putA all u.name u.new, p.2.length = 32 := fun p hp => by
  rcases insA_mem.1 hp with rfl | hp
  ·exact hu
  ·exact h p (delA_mem.1 hp).1
 unfold updA
 split
 ·exact fun p hp => h1 p (delA_mem.1 hp).1
 ·exact h1
theorem updA_rises {all : AL (List UInt8)} (h : risesA all) (u : UpM) : risesA (updA all u) := by
 unfold updA
 split
 ·exact risesA_del (risesA_put h _ _) _
 ·exact risesA_put h _ _
theorem foldU_ids (us : List UpM) (hu : ∀ u ∈ us, upOk u) : ∀ all : AL (List UInt8), (∀ p ∈ all, p.2.length = 32) → ∀ p ∈ us.foldl updA all, p.2.length = 32 := by
 induction us with
 | nil => intro all h; exact h
 | cons u us ih =>
   intro all h
   rw [List.foldl_cons]
   exact ih (fun x hx => hu x (by simp [hx])) _ (updA_ids h (hu u (by simp)).2.1)
theorem foldU_rises (us : List UpM) : ∀ all : AL (List UInt8), risesA all → risesA (us.foldl updA all) := by
 induction us with
 | nil => intro all h; exact h
 | cons u us ih =>
   intro all h
   rw [List.foldl_cons]
   exact ih _ (updA_rises h u)
theorem makeR_ok {r : RfM} {t : TxM} (h : RfOk r) (ht : TxOk t) : RfOk (makeR r t) := by
 refine ⟨?_, foldU_ids t.us ht.us _ h.ids, fun u hu => ?_, foldU_rises t.us _ h.rn, ?_⟩
 ·unfold makeR
  dsimp only
  split
  ·rfl
  ·split
   ·exact ht.al
   ·exact h.al
 ·rcases List.mem_append.1 hu with hu | hu
  ·exact h.log u hu
  ·exact ht.us u hu
 ·unfold makeR
  dsimp only
  split
  ·exact ht.hd
  ·split
   ·simp
   ·exact h.hd
section
variable {N gr g : Nat} {w w' : World} {r : RfM} {q : QA}
theorem cells_ne_map {b c : Nat} {cs : Array Value} {t : TypeId} {fr : Nat × Nat} {es : Array MapEntry} {cl : Nat} (h : w.heap[b]? = some (.cells cs t fr)) (k : w.heap[c]? = some (.map es cl)) : b ≠ c := by
 rintro rfl
 rw [h] at k
 cases k
theorem RfIn.gr_ne (h : RfIn N w gr g r q) : gr ≠ q.mb := by
 obtain ⟨es, clock, h1, _⟩ := h.map
 exact cells_ne_map h.row h1
theorem RfIn.log_ne (h : RfIn N w gr g r q) : q.lv.ownBlock ≠ some q.mb ∧ q.lv.ownBlock ≠ some gr := by
 obtain ⟨es, clock, h1, _⟩ := h.map
 constructor
 ·intro e
  obtain ⟨cs, fr, h2⟩ := own_ty h.log e
  exact cells_ne_map h2 h1 rfl
 ·intro e
  obtain ⟨cs, fr, h2⟩ := own_ty h.log e
  rw [h.row] at h2
  cases h2
theorem RfIn.mapSet (h : RfIn N w gr g r q) (all' : AL (List UInt8)) (hg : w.grownBy w' (some q.mb)) (ho : w'.ownsMap Tryz.prog 9 idR q.mb all'.length (mapA idD all')) : RfIn N w' gr g { r with all := all' } q := by
 refine ⟨(hg.block _ (h.foot_lt (.inl rfl)) (by simpa using h.gr_ne)).trans h.row, ho, own_keep h.log (fun b hb hl => hg.block b hl (by rw [← hb]; exact h.log_ne.1)), h.base⟩
theorem RfIn.logSet (h : RfIn N w gr g r q) (ha : r.at_.length = 32) (log' : List UpM) (lv' : Value) (hr : w'.heap[gr]? = some (.cells ((rowR g q r).toArray.setIfInBounds 35 lv') 83 (0, 0)))
  (hm : w'.heap[q.mb]? = w.heap[q.mb]?) (ho : w'.ownsRow N 31 65 lv' log'.length (upsC log')) : RfIn N w' gr g { r with log := log' } { q with lv := lv' } := by
 refine ⟨?_, ?_, ho, h.base⟩
 ·rw [hr]
  have hl : (b8s r.at_).length = 32 := by rw [b8s_length, ha]
  have e : (rowR g q r).toArray.setIfInBounds 35 lv' = (rowR g { q with lv := lv' } { r with log := log' }).toArray := by
   rw [List.setIfInBounds_toArray]
   congr 1
   unfold rowR
   rw [List.set_cons_succ, List.set_cons_succ, List.set_cons_succ, List.set_append_right _ _ (by omega), hl]
   rfl
  rw [e]
 ·obtain ⟨es, clock, h1, h2⟩ := h.map
  exact ⟨es, clock, hm.trans h1, h2⟩
end
end Go.Proofs.YtelbofikcpchiaaGreat
