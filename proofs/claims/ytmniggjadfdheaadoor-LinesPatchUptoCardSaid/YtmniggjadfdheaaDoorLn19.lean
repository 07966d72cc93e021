
/- The document's Least. (Printed by wip/genLn19.py.) -/

import Derived.Test.YtmniggjadfdheaaDoorLn18

namespace Go.Proofs.YtmniggjadfdheaaDoor

set_option linter.unusedVariables false

set_option linter.unusedSimpArgs false

set_option linter.unusedSectionVars false

open Go.RowKit

theorem info_int : (Tryd.prog.info? 3).map (fun i => (i.zero, i.size, i.bytes)) = some (some (.int .i64 0), 1, 8) := by kernel_rfl
/-- numbers, as cells -/
def nats (l : List Nat) : List Value := l.map (fun (z : Nat) => Value.int .i64 (z : Int))
theorem nats_len (l : List Nat) : (nats l).length = l.length := by simp [nats]
theorem nats_app (l k : List Nat) : nats (l ++ k) = nats l ++ nats k := by simp [nats]
theorem nats_one (l : List Nat) : ∀ u ∈ nats l, u.oneCell' = true := by
  intro u hu
  obtain ⟨_, _, rfl⟩ := List.mem_map.1 hu
  rfl
/-- a row of the table -/
def levs (a b : List ByteArray) (i c : Nat) : List Nat := (List.range c).map (lev a b i)
theorem levs_len (a b : List ByteArray) (i c : Nat) : (levs a b i c).length = c := by simp [levs]
theorem levs_succ (a b : List ByteArray) (i c : Nat) : levs a b i (c + 1) = levs a b i c ++ [lev a b i c] := by simp [levs, List.range_succ]
theorem levs_get (a b : List ByteArray) (i c k : Nat) (h : k < c) : (nats (levs a b i c))[k]? = some (.int .i64 (lev a b i k : Int)) := by
  simp [nats, levs, h]
theorem lev_le (a b : List ByteArray) (i k : Nat) (hi : i ≤ a.length) (hk : k ≤ b.length) : lev a b i k ≤ i + k := by
  refine lev_least ?_
  have key : ∀ j, j ≤ i → Pth a b j j 0 := by
    intro j
    induction j with
    | zero => intro _; exact .zero
    | succ j ih => intro h; exact (ih (by omega)).drop (by omega)
  have key2 : ∀ j, j ≤ k → Pth a b (i + j) i j := by
    intro j
    induction j with
    | zero => intro _; exact key i (Nat.le_refl _)
    | succ j ih => intro h; exact (ih (by omega)).add (by omega)
  exact key2 k (Nat.le_refl _)

set_option maxRecDepth 100000 in
set_option maxHeartbeats 8000000 in
theorem least_any (A B : Option Addr) (a b : List ByteArray) (c c' : Nat) (w : World) (ha : Rd w A (sts a)) (hb : Rd w B (sts b)) (hla : a.length ≤ 1000) (hlb : b.length ≤ 1000) :
    Calls Tryd.prog 14 #[.slice A a.length c, .slice B b.length c'] w fun e w' => e = .returned (.int .i64 (levL a b : Int)) ∧ Below w.heap.size w w' := by
  have HA := Lib.hid ha
  have HB := Lib.hid hb
  obtain ⟨n, hn⟩ : ∃ n, a.length = n := ⟨_, rfl⟩
  obtain ⟨m, hm⟩ : ∃ m, b.length = m := ⟨_, rfl⟩
  have HN := Lib.hid hn
  have HM := Lib.hid hm
  have HLL : Hid (levL a b = lev a b n m) := Lib.hid (by unfold levL; rw [hn, hm])
  rw [HLL.out]
  rw [hn] at hla ⊢
  rw [hm] at hlb ⊢
  clear ha hb hn hm
  obtain ⟨W2, hW2⟩ : ∃ W, w.alloc (.cells #[] 3) = W := ⟨_, rfl⟩
  obtain ⟨r2, b2, s2⟩ := new_row hW2
  have O2 : Hid (W2.ownsRow w.heap.size 3 1 (.slice (some ⟨w.heap.size, 0, none⟩) 0 0) 0 (nats (levs a b 0 0))) := Lib.hid (by
    rw [← hW2]; exact own_new w w.heap.size 3 1 0 [] (Nat.le_refl _) rfl (by decide))
  have HB2 := Lib.hid b2
  clear r2 b2 s2
  go_enter Tryd.func14, Tryd.ntmps14
  go_wp2_with fail
  clear hW2
  go_loopg [5, 6] ((m + 1) * 1) (fun gk_ so i wr => ∃ (k : Nat) (Ao : Option Addr) (co : Nat), k ≤ m + 1 ∧ gk_ = m + 1 - k ∧ so = .slice Ao k co ∧ i = .int .i64 (k : Int) ∧ Hid (wr.ownsRow w.heap.size 3 1 (.slice Ao k co) k (nats (levs a b 0 k))) ∧ Hid (Below w.heap.size w wr))
  case atStart => exact ⟨0, _, 0, by omega, by omega, rfl, rfl, O2, HB2⟩
  case round =>
  obtain ⟨k, Ao, co, hk, rfl, rfl, rfl, HO, HBW⟩ := hrel
  by_cases hlt : k < m + 1
  · have i1 : (k : Int) ≤ (m : Int) := by omega
    have HTK : Hid (nats (levs a b 0 (k + 1)) = nats (levs a b 0 k) ++ [.int .i64 (k : Int)]) := Lib.hid (by rw [levs_succ, nats_app, lev_0]; rfl)
    obtain ⟨W6, hW6⟩ : ∃ W, wr.alloc (.cells #[.int .i64 (k : Int)] 3) = W := ⟨_, rfl⟩
    obtain ⟨r6, b6, s6⟩ := new_row hW6
    have HO6 := Lib.hid (own_below HO.out b6)
    have HR6 : Hid (Rd W6 (some ⟨wr.heap.size, 0, none⟩) (nats [k])) := Lib.hid (range_rd (range_of_row (cs := nats [k]) r6))
    have HBX : Hid (Below w.heap.size w W6) := Lib.hid (ext_trans HBW.out b6)
    have HBA := Lib.hid HBX.out.size
    clear r6 b6 s6
    go_wp2_with (at_builtin; refine wpList_append_rd _ rfl _ _ 57 rfl w.heap.size 3 _ 1 8 Tryd.underlying57 info_int rfl (by decide) (.slice Ao k co) k _ rfl HO6.out _ 1 1 (nats [k]) rfl rfl HR6.out (nats_one _) (by unfold maxLen; omega) (by omega) HBA.out ?_; intro v9 w9 ho9 hg9 hvb9; obtain ⟨A9, c9, e9, _⟩ := own_slice ho9; subst e9; have HO9 := Lib.hid ho9; have HB9 := Lib.hid (bel_own HBX.out rfl HO6.out hg9); clear ho9 hg9 hvb9)
    clear hW6
    go_roundg (m + 1 - (k + 1))
    case measure => omega
    case rel => exact ⟨k + 1, A9, c9, by omega, rfl, rfl, by first | rfl | exact congrArg (Value.int .i64) (by omega) | go_num, Lib.hid (by rw [HTK.out]; exact HO9.out), HB9⟩
  obtain rfl : k = m + 1 := by omega
  have j1 : ¬ (((m + 1 : Nat) : Int) ≤ (m : Int)) := by omega
  have j1' : ¬ ((m : Int) + 1 ≤ (m : Int)) := by omega
  have HR0 : Hid (Rd wr Ao (nats (levs a b 0 (m + 1)))) := Lib.hid (own_rd HO.out)
  clear HO hlt hk
  go_wp2_with fail
  go_loopg [5, 7] (n * 1) (fun gk_ so i wr => ∃ (i0 : Nat) (Ao : Option Addr) (co : Nat), i0 ≤ n ∧ gk_ = n - i0 ∧ so = .slice Ao (m + 1) co ∧ i = .int .i64 ((i0 : Int) + 1) ∧ Hid (Rd wr Ao (nats (levs a b i0 (m + 1)))) ∧ Hid (Below w.heap.size w wr))
  case atStart => exact ⟨0, Ao, co, by omega, by omega, rfl, rfl, HR0, HBW⟩
  case round =>
  clear HR0 HBW j1 j1'
  obtain ⟨i0, Ar, cr, hi0, rfl, rfl, rfl, HR, HBW⟩ := hrel
  obtain ⟨w2, hw2_⟩ : ∃ x, x = wr := ⟨_, rfl⟩
  subst hw2_
  by_cases hlt : i0 < n
  · have i1 : (i0 : Int) + 1 ≤ (n : Int) := by omega
    obtain ⟨W3, hW3⟩ : ∃ W, w2.alloc (.cells #[.int .i64 ((i0 : Int) + 1)] 3) = W := ⟨_, rfl⟩
    have O3 : Hid (W3.ownsRow w2.heap.size 3 1 (.slice (some ⟨w2.heap.size, 0, none⟩) 1 1) 1 (nats (levs a b (i0 + 1) 1))) := Lib.hid (by
      rw [← hW3]
      have h := own_new w2 w2.heap.size 3 1 1 (nats (levs a b (i0 + 1) 1)) (Nat.le_refl _) rfl (by decide)
      have e : (nats (levs a b (i0 + 1) 1)).toArray = #[.int .i64 ((i0 : Int) + 1)] := by
        rw [levs_succ, nats_app, lev_k0]; rfl
      rw [e] at h
      exact h)
    obtain ⟨r3, b3, s3⟩ := new_row hW3
    have B3 := Lib.hid b3
    clear r3 b3 s3
    go_wp2_with fail
    clear hW3
    go_loopg [8, 9] (m * 1) (fun gk_ so i wr => ∃ (k : Nat) (An : Option Addr) (cn : Nat), k ≤ m ∧ gk_ = m - k ∧ so = .slice An (k + 1) cn ∧ i = .int .i64 ((k : Int) + 1) ∧ Hid (wr.ownsRow w2.heap.size 3 1 (.slice An (k + 1) cn) (k + 1) (nats (levs a b (i0 + 1) (k + 1)))) ∧ Hid (Below w2.heap.size w2 wr))
    case atStart => exact ⟨0, _, 1, by omega, by omega, rfl, rfl, O3, B3⟩
    case round =>
    obtain ⟨k, An, cn, hk, rfl, rfl, rfl, HO, HBI⟩ := hrel
    by_cases hkm : k < m
    · have i2 : (k : Int) + 1 ≤ (m : Int) := by omega
      have HBG : Hid (Below w.heap.size w wr) := Lib.hid (ext_trans HBW.out HBI.out)
      have ka : i0 < a.length := by rw [HN.out]; exact hlt
      have kb : k < b.length := by rw [HM.out]; exact hkm
      obtain ⟨bA, oA, hA1, hA2⟩ := (HA.out.below HBG.out) i0 _ (sts_get a i0 ka)
      obtain ⟨bB, oB, hB1, hB2⟩ := (HB.out.below HBG.out) k _ (sts_get b k kb)
      obtain ⟨bR, oR, hR1, hR2⟩ := (HR.out.below HBI.out) (k + 1) _ (levs_get a b i0 (m + 1) (k + 1) (by omega))
      obtain ⟨bR', oR', hR1', hR3⟩ := (HR.out.below HBI.out) k _ (levs_get a b i0 (m + 1) k (by omega))
      rw [hR1] at hR1'
      cases hR1'
      obtain ⟨bS, oS, hS1, hS2⟩ := (own_rd HO.out) k _ (levs_get a b (i0 + 1) (k + 1) k (by omega))
      obtain ⟨x, hx⟩ : ∃ x, a[i0] = x := ⟨_, rfl⟩
      obtain ⟨y, hy⟩ : ∃ x, b[k] = x := ⟨_, rfl⟩
      rw [hx] at hA2
      rw [hy] at hB2
      obtain ⟨u, hu⟩ : ∃ u, lev a b i0 (k + 1) = u := ⟨_, rfl⟩
      obtain ⟨v, hv⟩ : ∃ v, lev a b (i0 + 1) k = v := ⟨_, rfl⟩
      obtain ⟨d, hd⟩ : ∃ d, lev a b i0 k = d := ⟨_, rfl⟩
      have hub := lev_le a b i0 (k + 1) (by omega) (by omega)
      have hvb := lev_le a b (i0 + 1) k (by omega) (by omega)
      have hdb := lev_le a b i0 k (by omega) (by omega)
      have hss := lev_ss a b i0 k
      rw [List.getElem?_eq_getElem ka, List.getElem?_eq_getElem kb, hx, hy, hu, hv, hd] at hss
      rw [hu] at hR2 hub
      rw [hv] at hS2 hvb
      rw [hd] at hR3 hdb
      have HSS := Lib.hid hss
      have XA := Lib.hid hA1
      have XB := Lib.hid hB1
      have XR := Lib.hid hR1
      have XS := Lib.hid hS1
      have ub : u ≤ 2001 := by omega
      have vb : v ≤ 2001 := by omega
      have db : d ≤ 2001 := by omega
      have HLS := Lib.hid (levs_succ a b (i0 + 1) (k + 1))
      have hw1 : IntKind.i64.wrap (i0 : Int) = (i0 : Int) := by rw [IntKind.wrap_i64]; omega
      have hw2 : IntKind.i64.wrap (k : Int) = (k : Int) := by rw [IntKind.wrap_i64]; omega
      have hx1 : (i0 : Int) < (n : Int) := by omega
      have hx2 : (k : Int) < (m : Int) := by omega
      have hx3 : (k : Int) < (m : Int) + 1 := by omega
      rw [hA1, hB1, hR1, hS1]
      rw [hS1] at HO
      clear hA1 hB1 hR1 hS1 hx hy hu hv hd hub hvb hdb hss ka kb
      by_cases hvu : v < u
      · have l1 : (v : Int) + 1 < (u : Int) + 1 := by omega
        have l1_ : (v : Int) < (u : Int) := by omega
        have hmin : min (u + 1) (v + 1) = v + 1 := by omega
        by_cases hxy : x = y
        · have heq : ∀ w, (binOp .eql 9 (.string x) (.string y)).run Tryd.prog w = .ok (.bool true) w := fun w => by rw [bin_streq Tryd.underlying9, decide_eq_true hxy]
          by_cases hdn : d < v + 1
          · have l2 : (d : Int) < (v : Int) + 1 := by omega
            have HRES : Hid (lev a b (i0 + 1) (k + 1) = d) := Lib.hid (by rw [HSS.out, hmin, if_pos ⟨by rw [hxy], hdn⟩])
            clear hxy hmin hdn hvu
            go_wp2_with fail
            refine wp_region_sched (fun w' => w'.cell? ⟨bA, oA + i0, none⟩ = some (.string x) ∧ w'.cell? ⟨bB, oB + k, none⟩ = some (.string y) ∧ w'.cell? ⟨bR, oR + k, none⟩ = some (.int .i64 (d : Int))) [(true, 0), (true, 1), (true, 2), (true, 3), (true, 4), (true, 5), (true, 6), (true, 7), (true, 8), (true, 9), (true, 10), (true, 11), (true, 12), (true, 13), (true, 14), (true, 15), (true, 16), (true, 17), (true, 18), (true, 19)] (by kernel_rfl) (by kernel_rfl) rfl (by kernel_rfl) ⟨hA2, hB2, hR3⟩ ?_
            (first | (refine wpS_pass _ rfl (by rfl) ?_; simp only [Act.put, List.getElem_toArray, List.getElem_cons_zero, List.getElem_cons_succ, List.setIfInBounds_toArray, List.set_cons_zero, List.set_cons_succ]) | (refine wpS_take _ ?_ rfl (by rfl) ?_ ?_; rotate_left; (focus (intro w' hS'; (try dsimp only at hS'); (repeat (have hS1 := hS'.1; replace hS' := hS'.2)); go_simp; (try with_reducible rfl); done)); simp only [Act.put, List.getElem_toArray, List.getElem_cons_zero, List.getElem_cons_succ, List.setIfInBounds_toArray, List.set_cons_zero, List.set_cons_succ]))
            (first | (refine wpS_pass _ rfl (by rfl) ?_; simp only [Act.put, List.getElem_toArray, List.getElem_cons_zero, List.getElem_cons_succ, List.setIfInBounds_toArray, List.set_cons_zero, List.set_cons_succ]) | (refine wpS_take _ ?_ rfl (by rfl) ?_ ?_; rotate_left; (focus (intro w' hS'; (try dsimp only at hS'); (repeat (have hS1 := hS'.1; replace hS' := hS'.2)); go_simp; (try with_reducible rfl); done)); simp only [Act.put, List.getElem_toArray, List.getElem_cons_zero, List.getElem_cons_succ, List.setIfInBounds_toArray, List.set_cons_zero, List.set_cons_succ]))
            (first | (refine wpS_pass _ rfl (by rfl) ?_; simp only [Act.put, List.getElem_toArray, List.getElem_cons_zero, List.getElem_cons_succ, List.setIfInBounds_toArray, List.set_cons_zero, List.set_cons_succ]) | (refine wpS_take _ ?_ rfl (by rfl) ?_ ?_; rotate_left; (focus (intro w' hS'; (try dsimp only at hS'); (repeat (have hS1 := hS'.1; replace hS' := hS'.2)); go_simp; (try with_reducible rfl); done)); simp only [Act.put, List.getElem_toArray, List.getElem_cons_zero, List.getElem_cons_succ, List.setIfInBounds_toArray, List.set_cons_zero, List.set_cons_succ]))
            (first | (refine wpS_pass _ rfl (by rfl) ?_; simp only [Act.put, List.getElem_toArray, List.getElem_cons_zero, List.getElem_cons_succ, List.setIfInBounds_toArray, List.set_cons_zero, List.set_cons_succ]) | (refine wpS_take _ ?_ rfl (by rfl) ?_ ?_; rotate_left; (focus (intro w' hS'; (try dsimp only at hS'); (repeat (have hS1 := hS'.1; replace hS' := hS'.2)); go_simp; (try with_reducible rfl); done)); simp only [Act.put, List.getElem_toArray, List.getElem_cons_zero, List.getElem_cons_succ, List.setIfInBounds_toArray, List.set_cons_zero, List.set_cons_succ]))
            (first | (refine wpS_pass _ rfl (by rfl) ?_; simp only [Act.put, List.getElem_toArray, List.getElem_cons_zero, List.getElem_cons_succ, List.setIfInBounds_toArray, List.set_cons_zero, List.set_cons_succ]) | (refine wpS_take _ ?_ rfl (by rfl) ?_ ?_; rotate_left; (focus (intro w' hS'; (try dsimp only at hS'); (repeat (have hS1 := hS'.1; replace hS' := hS'.2)); go_simp; (try with_reducible rfl); done)); simp only [Act.put, List.getElem_toArray, List.getElem_cons_zero, List.getElem_cons_succ, List.setIfInBounds_toArray, List.set_cons_zero, List.set_cons_succ]))
            (first | (refine wpS_pass _ rfl (by rfl) ?_; simp only [Act.put, List.getElem_toArray, List.getElem_cons_zero, List.getElem_cons_succ, List.setIfInBounds_toArray, List.set_cons_zero, List.set_cons_succ]) | (refine wpS_take _ ?_ rfl (by rfl) ?_ ?_; rotate_left; (focus (intro w' hS'; (try dsimp only at hS'); (repeat (have hS1 := hS'.1; replace hS' := hS'.2)); go_simp; (try with_reducible rfl); done)); simp only [Act.put, List.getElem_toArray, List.getElem_cons_zero, List.getElem_cons_succ, List.setIfInBounds_toArray, List.set_cons_zero, List.set_cons_succ]))
            (first | (refine wpS_pass _ rfl (by rfl) ?_; simp only [Act.put, List.getElem_toArray, List.getElem_cons_zero, List.getElem_cons_succ, List.setIfInBounds_toArray, List.set_cons_zero, List.set_cons_succ]) | (refine wpS_take _ ?_ rfl (by rfl) ?_ ?_; rotate_left; (focus (intro w' hS'; (try dsimp only at hS'); (repeat (have hS1 := hS'.1; replace hS' := hS'.2)); go_simp; (try with_reducible rfl); done)); simp only [Act.put, List.getElem_toArray, List.getElem_cons_zero, List.getElem_cons_succ, List.setIfInBounds_toArray, List.set_cons_zero, List.set_cons_succ]))
            (first | (refine wpS_pass _ rfl (by rfl) ?_; simp only [Act.put, List.getElem_toArray, List.getElem_cons_zero, List.getElem_cons_succ, List.setIfInBounds_toArray, List.set_cons_zero, List.set_cons_succ]) | (refine wpS_take _ ?_ rfl (by rfl) ?_ ?_; rotate_left; (focus (intro w' hS'; (try dsimp only at hS'); (repeat (have hS1 := hS'.1; replace hS' := hS'.2)); go_simp; (try with_reducible rfl); done)); simp only [Act.put, List.getElem_toArray, List.getElem_cons_zero, List.getElem_cons_succ, List.setIfInBounds_toArray, List.set_cons_zero, List.set_cons_succ]))
            (first | (refine wpS_pass _ rfl (by rfl) ?_; simp only [Act.put, List.getElem_toArray, List.getElem_cons_zero, List.getElem_cons_succ, List.setIfInBounds_toArray, List.set_cons_zero, List.set_cons_succ]) | (refine wpS_take _ ?_ rfl (by rfl) ?_ ?_; rotate_left; (focus (intro w' hS'; (try dsimp only at hS'); (repeat (have hS1 := hS'.1; replace hS' := hS'.2)); go_simp; (try with_reducible rfl); done)); simp only [Act.put, List.getElem_toArray, List.getElem_cons_zero, List.getElem_cons_succ, List.setIfInBounds_toArray, List.set_cons_zero, List.set_cons_succ]))
            (first | (refine wpS_pass _ rfl (by rfl) ?_; simp only [Act.put, List.getElem_toArray, List.getElem_cons_zero, List.getElem_cons_succ, List.setIfInBounds_toArray, List.set_cons_zero, List.set_cons_succ]) | (refine wpS_take _ ?_ rfl (by rfl) ?_ ?_; rotate_left; (focus (intro w' hS'; (try dsimp only at hS'); (repeat (have hS1 := hS'.1; replace hS' := hS'.2)); go_simp; (try with_reducible rfl); done)); simp only [Act.put, List.getElem_toArray, List.getElem_cons_zero, List.getElem_cons_succ, List.setIfInBounds_toArray, List.set_cons_zero, List.set_cons_succ]))
            refine wpS_take _ _ rfl (by rfl) (fun w' hS' => exec_bin _ _ _ _ _ rfl _ _ _ rfl rfl rfl (heq w')) ?_
            simp only [Act.put, List.getElem_toArray, List.getElem_cons_zero, List.getElem_cons_succ, List.setIfInBounds_toArray, List.set_cons_zero, List.set_cons_succ]
            (repeat (first | (refine wpS_pass _ rfl (by rfl) ?_; simp only [Act.put, List.getElem_toArray, List.getElem_cons_zero, List.getElem_cons_succ, List.setIfInBounds_toArray, List.set_cons_zero, List.set_cons_succ]) | (refine wpS_take _ ?_ rfl (by rfl) ?_ ?_; rotate_left; (focus (intro w' hS'; (try dsimp only at hS'); (repeat (have hS1 := hS'.1; replace hS' := hS'.2)); go_simp; (try with_reducible rfl); done)); simp only [Act.put, List.getElem_toArray, List.getElem_cons_zero, List.getElem_cons_succ, List.setIfInBounds_toArray, List.set_cons_zero, List.set_cons_succ])))
            refine wpS_done ?_
            have hR3' : wr.drew.cell? ⟨bR, oR + k, none⟩ = some (.int .i64 (d : Int)) := hR3
            have HOQ : Hid (wr.drew.ownsRow w2.heap.size 3 1 (.slice (some ⟨bS, oS, none⟩) (k + 1) cn) (k + 1) (nats (levs a b (i0 + 1) (k + 1)))) := Lib.hid (own_below HO.out (Below.refl _ _).drew)
            have HBQ : Hid (Below w2.heap.size w2 wr.drew) := Lib.hid HBI.out.drew
            generalize wr.drew = WQ at *
            obtain ⟨W6, hW6⟩ : ∃ W, WQ.alloc (.cells #[.int .i64 ((d : Int))] 3) = W := ⟨_, rfl⟩
            obtain ⟨r6, b6, s6⟩ := new_row hW6
            have HO6 := Lib.hid (own_below HOQ.out b6)
            have HR6 : Hid (Rd W6 (some ⟨WQ.heap.size, 0, none⟩) [.int .i64 ((d : Int))]) := Lib.hid (range_rd (range_of_row (cs := [.int .i64 ((d : Int))]) r6))
            have HBX : Hid (Below w2.heap.size w2 W6) := Lib.hid (ext_trans HBQ.out b6)
            have HBA := Lib.hid HBX.out.size
            clear r6 b6 s6
            go_wp2_with (at_builtin; refine wpList_append_rd _ rfl _ _ 57 rfl w2.heap.size 3 _ 1 8 Tryd.underlying57 info_int rfl (by decide) (.slice (some ⟨bS, oS, none⟩) (k + 1) cn) (k + 1) _ rfl HO6.out _ 1 1 [.int .i64 ((d : Int))] rfl rfl HR6.out (nats_one [d]) (by unfold maxLen; omega) (by omega) HBA.out ?_; intro v9 w9 ho9 hg9 hvb9; obtain ⟨A9, c9, e9, _⟩ := own_slice ho9; subst e9; have HO9 := Lib.hid ho9; have HB9 := Lib.hid (bel_own HBX.out rfl HO6.out hg9); clear ho9 hg9 hvb9)
            have HVAL : Hid (nats (levs a b (i0 + 1) (k + 1 + 1)) = nats (levs a b (i0 + 1) (k + 1)) ++ [.int .i64 ((d : Int))]) := Lib.hid (by rw [HLS.out, nats_app, HRES.out]; rfl)
            clear hA2 hB2 hR2 hR3 hS2 heq hW6 hR3'
            rw [← XA.out, ← XB.out, ← XR.out]
            go_roundg (m - (k + 1))
            case measure => omega
            case rel => exact ⟨k + 1, A9, c9, by omega, rfl, rfl, by first | rfl | exact congrArg (Value.int .i64) (by omega) | go_num, Lib.hid (by rw [HVAL.out]; exact HO9.out), HB9⟩
          · have l2 : ¬ ((d : Int) < (v : Int) + 1) := by omega
            have HRES : Hid (lev a b (i0 + 1) (k + 1) = v + 1) := Lib.hid (by rw [HSS.out, hmin, if_neg (fun h => hdn h.2)])
            clear hxy hmin hdn hvu
            go_wp2_with fail
            refine wp_region_sched (fun w' => w'.cell? ⟨bA, oA + i0, none⟩ = some (.string x) ∧ w'.cell? ⟨bB, oB + k, none⟩ = some (.string y) ∧ w'.cell? ⟨bR, oR + k, none⟩ = some (.int .i64 (d : Int))) [(true, 0), (true, 1), (true, 2), (true, 3), (true, 4), (true, 5), (true, 6), (true, 7), (true, 8), (true, 9), (true, 10), (true, 11), (true, 12), (true, 13), (true, 14), (true, 15), (true, 16), (true, 17), (true, 18), (true, 19)] (by kernel_rfl) (by kernel_rfl) rfl (by kernel_rfl) ⟨hA2, hB2, hR3⟩ ?_
            (first | (refine wpS_pass _ rfl (by rfl) ?_; simp only [Act.put, List.getElem_toArray, List.getElem_cons_zero, List.getElem_cons_succ, List.setIfInBounds_toArray, List.set_cons_zero, List.set_cons_succ]) | (refine wpS_take _ ?_ rfl (by rfl) ?_ ?_; rotate_left; (focus (intro w' hS'; (try dsimp only at hS'); (repeat (have hS1 := hS'.1; replace hS' := hS'.2)); go_simp; (try with_reducible rfl); done)); simp only [Act.put, List.getElem_toArray, List.getElem_cons_zero, List.getElem_cons_succ, List.setIfInBounds_toArray, List.set_cons_zero, List.set_cons_succ]))
            (first | (refine wpS_pass _ rfl (by rfl) ?_; simp only [Act.put, List.getElem_toArray, List.getElem_cons_zero, List.getElem_cons_succ, List.setIfInBounds_toArray, List.set_cons_zero, List.set_cons_succ]) | (refine wpS_take _ ?_ rfl (by rfl) ?_ ?_; rotate_left; (focus (intro w' hS'; (try dsimp only at hS'); (repeat (have hS1 := hS'.1; replace hS' := hS'.2)); go_simp; (try with_reducible rfl); done)); simp only [Act.put, List.getElem_toArray, List.getElem_cons_zero, List.getElem_cons_succ, List.setIfInBounds_toArray, List.set_cons_zero, List.set_cons_succ]))
            (first | (refine wpS_pass _ rfl (by rfl) ?_; simp only [Act.put, List.getElem_toArray, List.getElem_cons_zero, List.getElem_cons_succ, List.setIfInBounds_toArray, List.set_cons_zero, List.set_cons_succ]) | (refine wpS_take _ ?_ rfl (by rfl) ?_ ?_; rotate_left; (focus (intro w' hS'; (try dsimp only at hS'); (repeat (have hS1 := hS'.1; replace hS' := hS'.2)); go_simp; (try with_reducible rfl); done)); simp only [Act.put, List.getElem_toArray, List.getElem_cons_zero, List.getElem_cons_succ, List.setIfInBounds_toArray, List.set_cons_zero, List.set_cons_succ]))
            (first | (refine wpS_pass _ rfl (by rfl) ?_; simp only [Act.put, List.getElem_toArray, List.getElem_cons_zero, List.getElem_cons_succ, List.setIfInBounds_toArray, List.set_cons_zero, List.set_cons_succ]) | (refine wpS_take _ ?_ rfl (by rfl) ?_ ?_; rotate_left; (focus (intro w' hS'; (try dsimp only at hS'); (repeat (have hS1 := hS'.1; replace hS' := hS'.2)); go_simp; (try with_reducible rfl); done)); simp only [Act.put, List.getElem_toArray, List.getElem_cons_zero, List.getElem_cons_succ, List.setIfInBounds_toArray, List.set_cons_zero, List.set_cons_succ]))
            (first | (refine wpS_pass _ rfl (by rfl) ?_; simp only [Act.put, List.getElem_toArray, List.getElem_cons_zero, List.getElem_cons_succ, List.setIfInBounds_toArray, List.set_cons_zero, List.set_cons_succ]) | (refine wpS_take _ ?_ rfl (by rfl) ?_ ?_; rotate_left; (focus (intro w' hS'; (try dsimp only at hS'); (repeat (have hS1 := hS'.1; replace hS' := hS'.2)); go_simp; (try with_reducible rfl); done)); simp only [Act.put, List.getElem_toArray, List.getElem_cons_zero, List.getElem_cons_succ, List.setIfInBounds_toArray, List.set_cons_zero, List.set_cons_succ]))
            (first | (refine wpS_pass _ rfl (by rfl) ?_; simp only [Act.put, List.getElem_toArray, List.getElem_cons_zero, List.getElem_cons_succ, List.setIfInBounds_toArray, List.set_cons_zero, List.set_cons_succ]) | (refine wpS_take _ ?_ rfl (by rfl) ?_ ?_; rotate_left; (focus (intro w' hS'; (try dsimp only at hS'); (repeat (have hS1 := hS'.1; replace hS' := hS'.2)); go_simp; (try with_reducible rfl); done)); simp only [Act.put, List.getElem_toArray, List.getElem_cons_zero, List.getElem_cons_succ, List.setIfInBounds_toArray, List.set_cons_zero, List.set_cons_succ]))
            (first | (refine wpS_pass _ rfl (by rfl) ?_; simp only [Act.put, List.getElem_toArray, List.getElem_cons_zero, List.getElem_cons_succ, List.setIfInBounds_toArray, List.set_cons_zero, List.set_cons_succ]) | (refine wpS_take _ ?_ rfl (by rfl) ?_ ?_; rotate_left; (focus (intro w' hS'; (try dsimp only at hS'); (repeat (have hS1 := hS'.1; replace hS' := hS'.2)); go_simp; (try with_reducible rfl); done)); simp only [Act.put, List.getElem_toArray, List.getElem_cons_zero, List.getElem_cons_succ, List.setIfInBounds_toArray, List.set_cons_zero, List.set_cons_succ]))
            (first | (refine wpS_pass _ rfl (by rfl) ?_; simp only [Act.put, List.getElem_toArray, List.getElem_cons_zero, List.getElem_cons_succ, List.setIfInBounds_toArray, List.set_cons_zero, List.set_cons_succ]) | (refine wpS_take _ ?_ rfl (by rfl) ?_ ?_; rotate_left; (focus (intro w' hS'; (try dsimp only at hS'); (repeat (have hS1 := hS'.1; replace hS' := hS'.2)); go_simp; (try with_reducible rfl); done)); simp only [Act.put, List.getElem_toArray, List.getElem_cons_zero, List.getElem_cons_succ, List.setIfInBounds_toArray, List.set_cons_zero, List.set_cons_succ]))
            (first | (refine wpS_pass _ rfl (by rfl) ?_; simp only [Act.put, List.getElem_toArray, List.getElem_cons_zero, List.getElem_cons_succ, List.setIfInBounds_toArray, List.set_cons_zero, List.set_cons_succ]) | (refine wpS_take _ ?_ rfl (by rfl) ?_ ?_; rotate_left; (focus (intro w' hS'; (try dsimp only at hS'); (repeat (have hS1 := hS'.1; replace hS' := hS'.2)); go_simp; (try with_reducible rfl); done)); simp only [Act.put, List.getElem_toArray, List.getElem_cons_zero, List.getElem_cons_succ, List.setIfInBounds_toArray, List.set_cons_zero, List.set_cons_succ]))
            (first | (refine wpS_pass _ rfl (by rfl) ?_; simp only [Act.put, List.getElem_toArray, List.getElem_cons_zero, List.getElem_cons_succ, List.setIfInBounds_toArray, List.set_cons_zero, List.set_cons_succ]) | (refine wpS_take _ ?_ rfl (by rfl) ?_ ?_; rotate_left; (focus (intro w' hS'; (try dsimp only at hS'); (repeat (have hS1 := hS'.1; replace hS' := hS'.2)); go_simp; (try with_reducible rfl); done)); simp only [Act.put, List.getElem_toArray, List.getElem_cons_zero, List.getElem_cons_succ, List.setIfInBounds_toArray, List.set_cons_zero, List.set_cons_succ]))
            refine wpS_take _ _ rfl (by rfl) (fun w' hS' => exec_bin _ _ _ _ _ rfl _ _ _ rfl rfl rfl (heq w')) ?_
            simp only [Act.put, List.getElem_toArray, List.getElem_cons_zero, List.getElem_cons_succ, List.setIfInBounds_toArray, List.set_cons_zero, List.set_cons_succ]
            (repeat (first | (refine wpS_pass _ rfl (by rfl) ?_; simp only [Act.put, List.getElem_toArray, List.getElem_cons_zero, List.getElem_cons_succ, List.setIfInBounds_toArray, List.set_cons_zero, List.set_cons_succ]) | (refine wpS_take _ ?_ rfl (by rfl) ?_ ?_; rotate_left; (focus (intro w' hS'; (try dsimp only at hS'); (repeat (have hS1 := hS'.1; replace hS' := hS'.2)); go_simp; (try with_reducible rfl); done)); simp only [Act.put, List.getElem_toArray, List.getElem_cons_zero, List.getElem_cons_succ, List.setIfInBounds_toArray, List.set_cons_zero, List.set_cons_succ])))
            refine wpS_done ?_
            have hR3' : wr.drew.cell? ⟨bR, oR + k, none⟩ = some (.int .i64 (d : Int)) := hR3
            have HOQ : Hid (wr.drew.ownsRow w2.heap.size 3 1 (.slice (some ⟨bS, oS, none⟩) (k + 1) cn) (k + 1) (nats (levs a b (i0 + 1) (k + 1)))) := Lib.hid (own_below HO.out (Below.refl _ _).drew)
            have HBQ : Hid (Below w2.heap.size w2 wr.drew) := Lib.hid HBI.out.drew
            generalize wr.drew = WQ at *
            obtain ⟨W6, hW6⟩ : ∃ W, WQ.alloc (.cells #[.int .i64 ((v : Int) + 1)] 3) = W := ⟨_, rfl⟩
            obtain ⟨r6, b6, s6⟩ := new_row hW6
            have HO6 := Lib.hid (own_below HOQ.out b6)
            have HR6 : Hid (Rd W6 (some ⟨WQ.heap.size, 0, none⟩) [.int .i64 ((v : Int) + 1)]) := Lib.hid (range_rd (range_of_row (cs := [.int .i64 ((v : Int) + 1)]) r6))
            have HBX : Hid (Below w2.heap.size w2 W6) := Lib.hid (ext_trans HBQ.out b6)
            have HBA := Lib.hid HBX.out.size
            clear r6 b6 s6
            go_wp2_with (at_builtin; refine wpList_append_rd _ rfl _ _ 57 rfl w2.heap.size 3 _ 1 8 Tryd.underlying57 info_int rfl (by decide) (.slice (some ⟨bS, oS, none⟩) (k + 1) cn) (k + 1) _ rfl HO6.out _ 1 1 [.int .i64 ((v : Int) + 1)] rfl rfl HR6.out (nats_one [v + 1]) (by unfold maxLen; omega) (by omega) HBA.out ?_; intro v9 w9 ho9 hg9 hvb9; obtain ⟨A9, c9, e9, _⟩ := own_slice ho9; subst e9; have HO9 := Lib.hid ho9; have HB9 := Lib.hid (bel_own HBX.out rfl HO6.out hg9); clear ho9 hg9 hvb9)
            have HVAL : Hid (nats (levs a b (i0 + 1) (k + 1 + 1)) = nats (levs a b (i0 + 1) (k + 1)) ++ [.int .i64 ((v : Int) + 1)]) := Lib.hid (by rw [HLS.out, nats_app, HRES.out]; rfl)
            clear hA2 hB2 hR2 hR3 hS2 heq hW6 hR3'
            rw [← XA.out, ← XB.out, ← XR.out]
            go_roundg (m - (k + 1))
            case measure => omega
            case rel => exact ⟨k + 1, A9, c9, by omega, rfl, rfl, by first | rfl | exact congrArg (Value.int .i64) (by omega) | go_num, Lib.hid (by rw [HVAL.out]; exact HO9.out), HB9⟩
        · have heq : ∀ w, (binOp .eql 9 (.string x) (.string y)).run Tryd.prog w = .ok (.bool false) w := fun w => by rw [bin_streq Tryd.underlying9, decide_eq_false hxy]
          have HRES : Hid (lev a b (i0 + 1) (k + 1) = v + 1) := Lib.hid (by rw [HSS.out, hmin, if_neg (fun h => hxy (Option.some.inj h.1))])
          clear hxy hmin hvu
          go_wp2_with fail
          refine wp_region_sched (fun w' => w'.cell? ⟨bA, oA + i0, none⟩ = some (.string x) ∧ w'.cell? ⟨bB, oB + k, none⟩ = some (.string y) ∧ w'.cell? ⟨bR, oR + k, none⟩ = some (.int .i64 (d : Int))) [(true, 0), (true, 1), (true, 2), (true, 3), (true, 4), (true, 5), (true, 6), (true, 7), (true, 8), (true, 9), (true, 10), (true, 11), (true, 12), (true, 13), (true, 14), (true, 15), (true, 16), (true, 17), (true, 18), (true, 19)] (by kernel_rfl) (by kernel_rfl) rfl (by kernel_rfl) ⟨hA2, hB2, hR3⟩ ?_
          (first | (refine wpS_pass _ rfl (by rfl) ?_; simp only [Act.put, List.getElem_toArray, List.getElem_cons_zero, List.getElem_cons_succ, List.setIfInBounds_toArray, List.set_cons_zero, List.set_cons_succ]) | (refine wpS_take _ ?_ rfl (by rfl) ?_ ?_; rotate_left; (focus (intro w' hS'; (try dsimp only at hS'); (repeat (have hS1 := hS'.1; replace hS' := hS'.2)); go_simp; (try with_reducible rfl); done)); simp only [Act.put, List.getElem_toArray, List.getElem_cons_zero, List.getElem_cons_succ, List.setIfInBounds_toArray, List.set_cons_zero, List.set_cons_succ]))
          (first | (refine wpS_pass _ rfl (by rfl) ?_; simp only [Act.put, List.getElem_toArray, List.getElem_cons_zero, List.getElem_cons_succ, List.setIfInBounds_toArray, List.set_cons_zero, List.set_cons_succ]) | (refine wpS_take _ ?_ rfl (by rfl) ?_ ?_; rotate_left; (focus (intro w' hS'; (try dsimp only at hS'); (repeat (have hS1 := hS'.1; replace hS' := hS'.2)); go_simp; (try with_reducible rfl); done)); simp only [Act.put, List.getElem_toArray, List.getElem_cons_zero, List.getElem_cons_succ, List.setIfInBounds_toArray, List.set_cons_zero, List.set_cons_succ]))
          (first | (refine wpS_pass _ rfl (by rfl) ?_; simp only [Act.put, List.getElem_toArray, List.getElem_cons_zero, List.getElem_cons_succ, List.setIfInBounds_toArray, List.set_cons_zero, List.set_cons_succ]) | (refine wpS_take _ ?_ rfl (by rfl) ?_ ?_; rotate_left; (focus (intro w' hS'; (try dsimp only at hS'); (repeat (have hS1 := hS'.1; replace hS' := hS'.2)); go_simp; (try with_reducible rfl); done)); simp only [Act.put, List.getElem_toArray, List.getElem_cons_zero, List.getElem_cons_succ, List.setIfInBounds_toArray, List.set_cons_zero, List.set_cons_succ]))
          (first | (refine wpS_pass _ rfl (by rfl) ?_; simp only [Act.put, List.getElem_toArray, List.getElem_cons_zero, List.getElem_cons_succ, List.setIfInBounds_toArray, List.set_cons_zero, List.set_cons_succ]) | (refine wpS_take _ ?_ rfl (by rfl) ?_ ?_; rotate_left; (focus (intro w' hS'; (try dsimp only at hS'); (repeat (have hS1 := hS'.1; replace hS' := hS'.2)); go_simp; (try with_reducible rfl); done)); simp only [Act.put, List.getElem_toArray, List.getElem_cons_zero, List.getElem_cons_succ, List.setIfInBounds_toArray, List.set_cons_zero, List.set_cons_succ]))
          (first | (refine wpS_pass _ rfl (by rfl) ?_; simp only [Act.put, List.getElem_toArray, List.getElem_cons_zero, List.getElem_cons_succ, List.setIfInBounds_toArray, List.set_cons_zero, List.set_cons_succ]) | (refine wpS_take _ ?_ rfl (by rfl) ?_ ?_; rotate_left; (focus (intro w' hS'; (try dsimp only at hS'); (repeat (have hS1 := hS'.1; replace hS' := hS'.2)); go_simp; (try with_reducible rfl); done)); simp only [Act.put, List.getElem_toArray, List.getElem_cons_zero, List.getElem_cons_succ, List.setIfInBounds_toArray, List.set_cons_zero, List.set_cons_succ]))
          (first | (refine wpS_pass _ rfl (by rfl) ?_; simp only [Act.put, List.getElem_toArray, List.getElem_cons_zero, List.getElem_cons_succ, List.setIfInBounds_toArray, List.set_cons_zero, List.set_cons_succ]) | (refine wpS_take _ ?_ rfl (by rfl) ?_ ?_; rotate_left; (focus (intro w' hS'; (try dsimp only at hS'); (repeat (have hS1 := hS'.1; replace hS' := hS'.2)); go_simp; (try with_reducible rfl); done)); simp only [Act.put, List.getElem_toArray, List.getElem_cons_zero, List.getElem_cons_succ, List.setIfInBounds_toArray, List.set_cons_zero, List.set_cons_succ]))
          (first | (refine wpS_pass _ rfl (by rfl) ?_; simp only [Act.put, List.getElem_toArray, List.getElem_cons_zero, List.getElem_cons_succ, List.setIfInBounds_toArray, List.set_cons_zero, List.set_cons_succ]) | (refine wpS_take _ ?_ rfl (by rfl) ?_ ?_; rotate_left; (focus (intro w' hS'; (try dsimp only at hS'); (repeat (have hS1 := hS'.1; replace hS' := hS'.2)); go_simp; (try with_reducible rfl); done)); simp only [Act.put, List.getElem_toArray, List.getElem_cons_zero, List.getElem_cons_succ, List.setIfInBounds_toArray, List.set_cons_zero, List.set_cons_succ]))
          (first | (refine wpS_pass _ rfl (by rfl) ?_; simp only [Act.put, List.getElem_toArray, List.getElem_cons_zero, List.getElem_cons_succ, List.setIfInBounds_toArray, List.set_cons_zero, List.set_cons_succ]) | (refine wpS_take _ ?_ rfl (by rfl) ?_ ?_; rotate_left; (focus (intro w' hS'; (try dsimp only at hS'); (repeat (have hS1 := hS'.1; replace hS' := hS'.2)); go_simp; (try with_reducible rfl); done)); simp only [Act.put, List.getElem_toArray, List.getElem_cons_zero, List.getElem_cons_succ, List.setIfInBounds_toArray, List.set_cons_zero, List.set_cons_succ]))
          (first | (refine wpS_pass _ rfl (by rfl) ?_; simp only [Act.put, List.getElem_toArray, List.getElem_cons_zero, List.getElem_cons_succ, List.setIfInBounds_toArray, List.set_cons_zero, List.set_cons_succ]) | (refine wpS_take _ ?_ rfl (by rfl) ?_ ?_; rotate_left; (focus (intro w' hS'; (try dsimp only at hS'); (repeat (have hS1 := hS'.1; replace hS' := hS'.2)); go_simp; (try with_reducible rfl); done)); simp only [Act.put, List.getElem_toArray, List.getElem_cons_zero, List.getElem_cons_succ, List.setIfInBounds_toArray, List.set_cons_zero, List.set_cons_succ]))
          (first | (refine wpS_pass _ rfl (by rfl) ?_; simp only [Act.put, List.getElem_toArray, List.getElem_cons_zero, List.getElem_cons_succ, List.setIfInBounds_toArray, List.set_cons_zero, List.set_cons_succ]) | (refine wpS_take _ ?_ rfl (by rfl) ?_ ?_; rotate_left; (focus (intro w' hS'; (try dsimp only at hS'); (repeat (have hS1 := hS'.1; replace hS' := hS'.2)); go_simp; (try with_reducible rfl); done)); simp only [Act.put, List.getElem_toArray, List.getElem_cons_zero, List.getElem_cons_succ, List.setIfInBounds_toArray, List.set_cons_zero, List.set_cons_succ]))
          refine wpS_take _ _ rfl (by rfl) (fun w' hS' => exec_bin _ _ _ _ _ rfl _ _ _ rfl rfl rfl (heq w')) ?_
          simp only [Act.put, List.getElem_toArray, List.getElem_cons_zero, List.getElem_cons_succ, List.setIfInBounds_toArray, List.set_cons_zero, List.set_cons_succ]
          (repeat (first | (refine wpS_pass _ rfl (by rfl) ?_; simp only [Act.put, List.getElem_toArray, List.getElem_cons_zero, List.getElem_cons_succ, List.setIfInBounds_toArray, List.set_cons_zero, List.set_cons_succ]) | (refine wpS_take _ ?_ rfl (by rfl) ?_ ?_; rotate_left; (focus (intro w' hS'; (try dsimp only at hS'); (repeat (have hS1 := hS'.1; replace hS' := hS'.2)); go_simp; (try with_reducible rfl); done)); simp only [Act.put, List.getElem_toArray, List.getElem_cons_zero, List.getElem_cons_succ, List.setIfInBounds_toArray, List.set_cons_zero, List.set_cons_succ])))
          refine wpS_done ?_
          have hR3' : wr.drew.cell? ⟨bR, oR + k, none⟩ = some (.int .i64 (d : Int)) := hR3
          have HOQ : Hid (wr.drew.ownsRow w2.heap.size 3 1 (.slice (some ⟨bS, oS, none⟩) (k + 1) cn) (k + 1) (nats (levs a b (i0 + 1) (k + 1)))) := Lib.hid (own_below HO.out (Below.refl _ _).drew)
          have HBQ : Hid (Below w2.heap.size w2 wr.drew) := Lib.hid HBI.out.drew
          generalize wr.drew = WQ at *
          obtain ⟨W6, hW6⟩ : ∃ W, WQ.alloc (.cells #[.int .i64 ((v : Int) + 1)] 3) = W := ⟨_, rfl⟩
          obtain ⟨r6, b6, s6⟩ := new_row hW6
          have HO6 := Lib.hid (own_below HOQ.out b6)
          have HR6 : Hid (Rd W6 (some ⟨WQ.heap.size, 0, none⟩) [.int .i64 ((v : Int) + 1)]) := Lib.hid (range_rd (range_of_row (cs := [.int .i64 ((v : Int) + 1)]) r6))
          have HBX : Hid (Below w2.heap.size w2 W6) := Lib.hid (ext_trans HBQ.out b6)
          have HBA := Lib.hid HBX.out.size
          clear r6 b6 s6
          go_wp2_with (at_builtin; refine wpList_append_rd _ rfl _ _ 57 rfl w2.heap.size 3 _ 1 8 Tryd.underlying57 info_int rfl (by decide) (.slice (some ⟨bS, oS, none⟩) (k + 1) cn) (k + 1) _ rfl HO6.out _ 1 1 [.int .i64 ((v : Int) + 1)] rfl rfl HR6.out (nats_one [v + 1]) (by unfold maxLen; omega) (by omega) HBA.out ?_; intro v9 w9 ho9 hg9 hvb9; obtain ⟨A9, c9, e9, _⟩ := own_slice ho9; subst e9; have HO9 := Lib.hid ho9; have HB9 := Lib.hid (bel_own HBX.out rfl HO6.out hg9); clear ho9 hg9 hvb9)
          have HVAL : Hid (nats (levs a b (i0 + 1) (k + 1 + 1)) = nats (levs a b (i0 + 1) (k + 1)) ++ [.int .i64 ((v : Int) + 1)]) := Lib.hid (by rw [HLS.out, nats_app, HRES.out]; rfl)
          clear hA2 hB2 hR2 hR3 hS2 heq hW6 hR3'
          rw [← XA.out, ← XB.out, ← XR.out]
          go_roundg (m - (k + 1))
          case measure => omega
          case rel => exact ⟨k + 1, A9, c9, by omega, rfl, rfl, by first | rfl | exact congrArg (Value.int .i64) (by omega) | go_num, Lib.hid (by rw [HVAL.out]; exact HO9.out), HB9⟩
      · have l1 : ¬ ((v : Int) + 1 < (u : Int) + 1) := by omega
        have l1_ : ¬ ((v : Int) < (u : Int)) := by omega
        have hmin : min (u + 1) (v + 1) = u + 1 := by omega
        by_cases hxy : x = y
        · have heq : ∀ w, (binOp .eql 9 (.string x) (.string y)).run Tryd.prog w = .ok (.bool true) w := fun w => by rw [bin_streq Tryd.underlying9, decide_eq_true hxy]
          by_cases hdn : d < u + 1
          · have l2 : (d : Int) < (u : Int) + 1 := by omega
            have HRES : Hid (lev a b (i0 + 1) (k + 1) = d) := Lib.hid (by rw [HSS.out, hmin, if_pos ⟨by rw [hxy], hdn⟩])
            clear hxy hmin hdn hvu
            go_wp2_with fail
            refine wp_region_sched (fun w' => w'.cell? ⟨bA, oA + i0, none⟩ = some (.string x) ∧ w'.cell? ⟨bB, oB + k, none⟩ = some (.string y) ∧ w'.cell? ⟨bR, oR + k, none⟩ = some (.int .i64 (d : Int))) [(true, 0), (true, 1), (true, 2), (true, 3), (true, 4), (true, 5), (true, 6), (true, 7), (true, 8), (true, 9), (true, 10), (true, 11), (true, 12), (true, 13), (true, 14), (true, 15), (true, 16), (true, 17), (true, 18), (true, 19)] (by kernel_rfl) (by kernel_rfl) rfl (by kernel_rfl) ⟨hA2, hB2, hR3⟩ ?_
            (first | (refine wpS_pass _ rfl (by rfl) ?_; simp only [Act.put, List.getElem_toArray, List.getElem_cons_zero, List.getElem_cons_succ, List.setIfInBounds_toArray, List.set_cons_zero, List.set_cons_succ]) | (refine wpS_take _ ?_ rfl (by rfl) ?_ ?_; rotate_left; (focus (intro w' hS'; (try dsimp only at hS'); (repeat (have hS1 := hS'.1; replace hS' := hS'.2)); go_simp; (try with_reducible rfl); done)); simp only [Act.put, List.getElem_toArray, List.getElem_cons_zero, List.getElem_cons_succ, List.setIfInBounds_toArray, List.set_cons_zero, List.set_cons_succ]))
            (first | (refine wpS_pass _ rfl (by rfl) ?_; simp only [Act.put, List.getElem_toArray, List.getElem_cons_zero, List.getElem_cons_succ, List.setIfInBounds_toArray, List.set_cons_zero, List.set_cons_succ]) | (refine wpS_take _ ?_ rfl (by rfl) ?_ ?_; rotate_left; (focus (intro w' hS'; (try dsimp only at hS'); (repeat (have hS1 := hS'.1; replace hS' := hS'.2)); go_simp; (try with_reducible rfl); done)); simp only [Act.put, List.getElem_toArray, List.getElem_cons_zero, List.getElem_cons_succ, List.setIfInBounds_toArray, List.set_cons_zero, List.set_cons_succ]))
            (first | (refine wpS_pass _ rfl (by rfl) ?_; simp only [Act.put, List.getElem_toArray, List.getElem_cons_zero, List.getElem_cons_succ, List.setIfInBounds_toArray, List.set_cons_zero, List.set_cons_succ]) | (refine wpS_take _ ?_ rfl (by rfl) ?_ ?_; rotate_left; (focus (intro w' hS'; (try dsimp only at hS'); (repeat (have hS1 := hS'.1; replace hS' := hS'.2)); go_simp; (try with_reducible rfl); done)); simp only [Act.put, List.getElem_toArray, List.getElem_cons_zero, List.getElem_cons_succ, List.setIfInBounds_toArray, List.set_cons_zero, List.set_cons_succ]))
            (first | (refine wpS_pass _ rfl (by rfl) ?_; simp only [Act.put, List.getElem_toArray, List.getElem_cons_zero, List.getElem_cons_succ, List.setIfInBounds_toArray, List.set_cons_zero, List.set_cons_succ]) | (refine wpS_take _ ?_ rfl (by rfl) ?_ ?_; rotate_left; (focus (intro w' hS'; (try dsimp only at hS'); (repeat (have hS1 := hS'.1; replace hS' := hS'.2)); go_simp; (try with_reducible rfl); done)); simp only [Act.put, List.getElem_toArray, List.getElem_cons_zero, List.getElem_cons_succ, List.setIfInBounds_toArray, List.set_cons_zero, List.set_cons_succ]))
            (first | (refine wpS_pass _ rfl (by rfl) ?_; simp only [Act.put, List.getElem_toArray, List.getElem_cons_zero, List.getElem_cons_succ, List.setIfInBounds_toArray, List.set_cons_zero, List.set_cons_succ]) | (refine wpS_take _ ?_ rfl (by rfl) ?_ ?_; rotate_left; (focus (intro w' hS'; (try dsimp only at hS'); (repeat (have hS1 := hS'.1; replace hS' := hS'.2)); go_simp; (try with_reducible rfl); done)); simp only [Act.put, List.getElem_toArray, List.getElem_cons_zero, List.getElem_cons_succ, List.setIfInBounds_toArray, List.set_cons_zero, List.set_cons_succ]))
            (first | (refine wpS_pass _ rfl (by rfl) ?_; simp only [Act.put, List.getElem_toArray, List.getElem_cons_zero, List.getElem_cons_succ, List.setIfInBounds_toArray, List.set_cons_zero, List.set_cons_succ]) | (refine wpS_take _ ?_ rfl (by rfl) ?_ ?_; rotate_left; (focus (intro w' hS'; (try dsimp only at hS'); (repeat (have hS1 := hS'.1; replace hS' := hS'.2)); go_simp; (try with_reducible rfl); done)); simp only [Act.put, List.getElem_toArray, List.getElem_cons_zero, List.getElem_cons_succ, List.setIfInBounds_toArray, List.set_cons_zero, List.set_cons_succ]))
            (first | (refine wpS_pass _ rfl (by rfl) ?_; simp only [Act.put, List.getElem_toArray, List.getElem_cons_zero, List.getElem_cons_succ, List.setIfInBounds_toArray, List.set_cons_zero, List.set_cons_succ]) | (refine wpS_take _ ?_ rfl (by rfl) ?_ ?_; rotate_left; (focus (intro w' hS'; (try dsimp only at hS'); (repeat (have hS1 := hS'.1; replace hS' := hS'.2)); go_simp; (try with_reducible rfl); done)); simp only [Act.put, List.getElem_toArray, List.getElem_cons_zero, List.getElem_cons_succ, List.setIfInBounds_toArray, List.set_cons_zero, List.set_cons_succ]))
            (first | (refine wpS_pass _ rfl (by rfl) ?_; simp only [Act.put, List.getElem_toArray, List.getElem_cons_zero, List.getElem_cons_succ, List.setIfInBounds_toArray, List.set_cons_zero, List.set_cons_succ]) | (refine wpS_take _ ?_ rfl (by rfl) ?_ ?_; rotate_left; (focus (intro w' hS'; (try dsimp only at hS'); (repeat (have hS1 := hS'.1; replace hS' := hS'.2)); go_simp; (try with_reducible rfl); done)); simp only [Act.put, List.getElem_toArray, List.getElem_cons_zero, List.getElem_cons_succ, List.setIfInBounds_toArray, List.set_cons_zero, List.set_cons_succ]))
            (first | (refine wpS_pass _ rfl (by rfl) ?_; simp only [Act.put, List.getElem_toArray, List.getElem_cons_zero, List.getElem_cons_succ, List.setIfInBounds_toArray, List.set_cons_zero, List.set_cons_succ]) | (refine wpS_take _ ?_ rfl (by rfl) ?_ ?_; rotate_left; (focus (intro w' hS'; (try dsimp only at hS'); (repeat (have hS1 := hS'.1; replace hS' := hS'.2)); go_simp; (try with_reducible rfl); done)); simp only [Act.put, List.getElem_toArray, List.getElem_cons_zero, List.getElem_cons_succ, List.setIfInBounds_toArray, List.set_cons_zero, List.set_cons_succ]))
            (first | (refine wpS_pass _ rfl (by rfl) ?_; simp only [Act.put, List.getElem_toArray, List.getElem_cons_zero, List.getElem_cons_succ, List.setIfInBounds_toArray, List.set_cons_zero, List.set_cons_succ]) | (refine wpS_take _ ?_ rfl (by rfl) ?_ ?_; rotate_left; (focus (intro w' hS'; (try dsimp only at hS'); (repeat (have hS1 := hS'.1; replace hS' := hS'.2)); go_simp; (try with_reducible rfl); done)); simp only [Act.put, List.getElem_toArray, List.getElem_cons_zero, List.getElem_cons_succ, List.setIfInBounds_toArray, List.set_cons_zero, List.set_cons_succ]))
            refine wpS_take _ _ rfl (by rfl) (fun w' hS' => exec_bin _ _ _ _ _ rfl _ _ _ rfl rfl rfl (heq w')) ?_
            simp only [Act.put, List.getElem_toArray, List.getElem_cons_zero, List.getElem_cons_succ, List.setIfInBounds_toArray, List.set_cons_zero, List.set_cons_succ]
            (repeat (first | (refine wpS_pass _ rfl (by rfl) ?_; simp only [Act.put, List.getElem_toArray, List.getElem_cons_zero, List.getElem_cons_succ, List.setIfInBounds_toArray, List.set_cons_zero, List.set_cons_succ]) | (refine wpS_take _ ?_ rfl (by rfl) ?_ ?_; rotate_left; (focus (intro w' hS'; (try dsimp only at hS'); (repeat (have hS1 := hS'.1; replace hS' := hS'.2)); go_simp; (try with_reducible rfl); done)); simp only [Act.put, List.getElem_toArray, List.getElem_cons_zero, List.getElem_cons_succ, List.setIfInBounds_toArray, List.set_cons_zero, List.set_cons_succ])))
            refine wpS_done ?_
            have hR3' : wr.drew.cell? ⟨bR, oR + k, none⟩ = some (.int .i64 (d : Int)) := hR3
            have HOQ : Hid (wr.drew.ownsRow w2.heap.size 3 1 (.slice (some ⟨bS, oS, none⟩) (k + 1) cn) (k + 1) (nats (levs a b (i0 + 1) (k + 1)))) := Lib.hid (own_below HO.out (Below.refl _ _).drew)
            have HBQ : Hid (Below w2.heap.size w2 wr.drew) := Lib.hid HBI.out.drew
            generalize wr.drew = WQ at *
            obtain ⟨W6, hW6⟩ : ∃ W, WQ.alloc (.cells #[.int .i64 ((d : Int))] 3) = W := ⟨_, rfl⟩
            obtain ⟨r6, b6, s6⟩ := new_row hW6
            have HO6 := Lib.hid (own_below HOQ.out b6)
            have HR6 : Hid (Rd W6 (some ⟨WQ.heap.size, 0, none⟩) [.int .i64 ((d : Int))]) := Lib.hid (range_rd (range_of_row (cs := [.int .i64 ((d : Int))]) r6))
            have HBX : Hid (Below w2.heap.size w2 W6) := Lib.hid (ext_trans HBQ.out b6)
            have HBA := Lib.hid HBX.out.size
            clear r6 b6 s6
            go_wp2_with (at_builtin; refine wpList_append_rd _ rfl _ _ 57 rfl w2.heap.size 3 _ 1 8 Tryd.underlying57 info_int rfl (by decide) (.slice (some ⟨bS, oS, none⟩) (k + 1) cn) (k + 1) _ rfl HO6.out _ 1 1 [.int .i64 ((d : Int))] rfl rfl HR6.out (nats_one [d]) (by unfold maxLen; omega) (by omega) HBA.out ?_; intro v9 w9 ho9 hg9 hvb9; obtain ⟨A9, c9, e9, _⟩ := own_slice ho9; subst e9; have HO9 := Lib.hid ho9; have HB9 := Lib.hid (bel_own HBX.out rfl HO6.out hg9); clear ho9 hg9 hvb9)
            have HVAL : Hid (nats (levs a b (i0 + 1) (k + 1 + 1)) = nats (levs a b (i0 + 1) (k + 1)) ++ [.int .i64 ((d : Int))]) := Lib.hid (by rw [HLS.out, nats_app, HRES.out]; rfl)
            clear hA2 hB2 hR2 hR3 hS2 heq hW6 hR3'
            rw [← XA.out, ← XB.out, ← XR.out]
            go_roundg (m - (k + 1))
            case measure => omega
            case rel => exact ⟨k + 1, A9, c9, by omega, rfl, rfl, by first | rfl | exact congrArg (Value.int .i64) (by omega) | go_num, Lib.hid (by rw [HVAL.out]; exact HO9.out), HB9⟩
          · have l2 : ¬ ((d : Int) < (u : Int) + 1) := by omega
            have HRES : Hid (lev a b (i0 + 1) (k + 1) = u + 1) := Lib.hid (by rw [HSS.out, hmin, if_neg (fun h => hdn h.2)])
            clear hxy hmin hdn hvu
            go_wp2_with fail
            refine wp_region_sched (fun w' => w'.cell? ⟨bA, oA + i0, none⟩ = some (.string x) ∧ w'.cell? ⟨bB, oB + k, none⟩ = some (.string y) ∧ w'.cell? ⟨bR, oR + k, none⟩ = some (.int .i64 (d : Int))) [(true, 0), (true, 1), (true, 2), (true, 3), (true, 4), (true, 5), (true, 6), (true, 7), (true, 8), (true, 9), (true, 10), (true, 11), (true, 12), (true, 13), (true, 14), (true, 15), (true, 16), (true, 17), (true, 18), (true, 19)] (by kernel_rfl) (by kernel_rfl) rfl (by kernel_rfl) ⟨hA2, hB2, hR3⟩ ?_
            (first | (refine wpS_pass _ rfl (by rfl) ?_; simp only [Act.put, List.getElem_toArray, List.getElem_cons_zero, List.getElem_cons_succ, List.setIfInBounds_toArray, List.set_cons_zero, List.set_cons_succ]) | (refine wpS_take _ ?_ rfl (by rfl) ?_ ?_; rotate_left; (focus (intro w' hS'; (try dsimp only at hS'); (repeat (have hS1 := hS'.1; replace hS' := hS'.2)); go_simp; (try with_reducible rfl); done)); simp only [Act.put, List.getElem_toArray, List.getElem_cons_zero, List.getElem_cons_succ, List.setIfInBounds_toArray, List.set_cons_zero, List.set_cons_succ]))
            (first | (refine wpS_pass _ rfl (by rfl) ?_; simp only [Act.put, List.getElem_toArray, List.getElem_cons_zero, List.getElem_cons_succ, List.setIfInBounds_toArray, List.set_cons_zero, List.set_cons_succ]) | (refine wpS_take _ ?_ rfl (by rfl) ?_ ?_; rotate_left; (focus (intro w' hS'; (try dsimp only at hS'); (repeat (have hS1 := hS'.1; replace hS' := hS'.2)); go_simp; (try with_reducible rfl); done)); simp only [Act.put, List.getElem_toArray, List.getElem_cons_zero, List.getElem_cons_succ, List.setIfInBounds_toArray, List.set_cons_zero, List.set_cons_succ]))
            (first | (refine wpS_pass _ rfl (by rfl) ?_; simp only [Act.put, List.getElem_toArray, List.getElem_cons_zero, List.getElem_cons_succ, List.setIfInBounds_toArray, List.set_cons_zero, List.set_cons_succ]) | (refine wpS_take _ ?_ rfl (by rfl) ?_ ?_; rotate_left; (focus (intro w' hS'; (try dsimp only at hS'); (repeat (have hS1 := hS'.1; replace hS' := hS'.2)); go_simp; (try with_reducible rfl); done)); simp only [Act.put, List.getElem_toArray, List.getElem_cons_zero, List.getElem_cons_succ, List.setIfInBounds_toArray, List.set_cons_zero, List.set_cons_succ]))
            (first | (refine wpS_pass _ rfl (by rfl) ?_; simp only [Act.put, List.getElem_toArray, List.getElem_cons_zero, List.getElem_cons_succ, List.setIfInBounds_toArray, List.set_cons_zero, List.set_cons_succ]) | (refine wpS_take _ ?_ rfl (by rfl) ?_ ?_; rotate_left; (focus (intro w' hS'; (try dsimp only at hS'); (repeat (have hS1 := hS'.1; replace hS' := hS'.2)); go_simp; (try with_reducible rfl); done)); simp only [Act.put, List.getElem_toArray, List.getElem_cons_zero, List.getElem_cons_succ, List.setIfInBounds_toArray, List.set_cons_zero, List.set_cons_succ]))
            (first | (refine wpS_pass _ rfl (by rfl) ?_; simp only [Act.put, List.getElem_toArray, List.getElem_cons_zero, List.getElem_cons_succ, List.setIfInBounds_toArray, List.set_cons_zero, List.set_cons_succ]) | (refine wpS_take _ ?_ rfl (by rfl) ?_ ?_; rotate_left; (focus (intro w' hS'; (try dsimp only at hS'); (repeat (have hS1 := hS'.1; replace hS' := hS'.2)); go_simp; (try with_reducible rfl); done)); simp only [Act.put, List.getElem_toArray, List.getElem_cons_zero, List.getElem_cons_succ, List.setIfInBounds_toArray, List.set_cons_zero, List.set_cons_succ]))
            (first | (refine wpS_pass _ rfl (by rfl) ?_; simp only [Act.put, List.getElem_toArray, List.getElem_cons_zero, List.getElem_cons_succ, List.setIfInBounds_toArray, List.set_cons_zero, List.set_cons_succ]) | (refine wpS_take _ ?_ rfl (by rfl) ?_ ?_; rotate_left; (focus (intro w' hS'; (try dsimp only at hS'); (repeat (have hS1 := hS'.1; replace hS' := hS'.2)); go_simp; (try with_reducible rfl); done)); simp only [Act.put, List.getElem_toArray, List.getElem_cons_zero, List.getElem_cons_succ, List.setIfInBounds_toArray, List.set_cons_zero, List.set_cons_succ]))
            (first | (refine wpS_pass _ rfl (by rfl) ?_; simp only [Act.put, List.getElem_toArray, List.getElem_cons_zero, List.getElem_cons_succ, List.setIfInBounds_toArray, List.set_cons_zero, List.set_cons_succ]) | (refine wpS_take _ ?_ rfl (by rfl) ?_ ?_; rotate_left; (focus (intro w' hS'; (try dsimp only at hS'); (repeat (have hS1 := hS'.1; replace hS' := hS'.2)); go_simp; (try with_reducible rfl); done)); simp only [Act.put, List.getElem_toArray, List.getElem_cons_zero, List.getElem_cons_succ, List.setIfInBounds_toArray, List.set_cons_zero, List.set_cons_succ]))
            (first | (refine wpS_pass _ rfl (by rfl) ?_; simp only [Act.put, List.getElem_toArray, List.getElem_cons_zero, List.getElem_cons_succ, List.setIfInBounds_toArray, List.set_cons_zero, List.set_cons_succ]) | (refine wpS_take _ ?_ rfl (by rfl) ?_ ?_; rotate_left; (focus (intro w' hS'; (try dsimp only at hS'); (repeat (have hS1 := hS'.1; replace hS' := hS'.2)); go_simp; (try with_reducible rfl); done)); simp only [Act.put, List.getElem_toArray, List.getElem_cons_zero, List.getElem_cons_succ, List.setIfInBounds_toArray, List.set_cons_zero, List.set_cons_succ]))
            (first | (refine wpS_pass _ rfl (by rfl) ?_; simp only [Act.put, List.getElem_toArray, List.getElem_cons_zero, List.getElem_cons_succ, List.setIfInBounds_toArray, List.set_cons_zero, List.set_cons_succ]) | (refine wpS_take _ ?_ rfl (by rfl) ?_ ?_; rotate_left; (focus (intro w' hS'; (try dsimp only at hS'); (repeat (have hS1 := hS'.1; replace hS' := hS'.2)); go_simp; (try with_reducible rfl); done)); simp only [Act.put, List.getElem_toArray, List.getElem_cons_zero, List.getElem_cons_succ, List.setIfInBounds_toArray, List.set_cons_zero, List.set_cons_succ]))
            (first | (refine wpS_pass _ rfl (by rfl) ?_; simp only [Act.put, List.getElem_toArray, List.getElem_cons_zero, List.getElem_cons_succ, List.setIfInBounds_toArray, List.set_cons_zero, List.set_cons_succ]) | (refine wpS_take _ ?_ rfl (by rfl) ?_ ?_; rotate_left; (focus (intro w' hS'; (try dsimp only at hS'); (repeat (have hS1 := hS'.1; replace hS' := hS'.2)); go_simp; (try with_reducible rfl); done)); simp only [Act.put, List.getElem_toArray, List.getElem_cons_zero, List.getElem_cons_succ, List.setIfInBounds_toArray, List.set_cons_zero, List.set_cons_succ]))
            refine wpS_take _ _ rfl (by rfl) (fun w' hS' => exec_bin _ _ _ _ _ rfl _ _ _ rfl rfl rfl (heq w')) ?_
            simp only [Act.put, List.getElem_toArray, List.getElem_cons_zero, List.getElem_cons_succ, List.setIfInBounds_toArray, List.set_cons_zero, List.set_cons_succ]
            (repeat (first | (refine wpS_pass _ rfl (by rfl) ?_; simp only [Act.put, List.getElem_toArray, List.getElem_cons_zero, List.getElem_cons_succ, List.setIfInBounds_toArray, List.set_cons_zero, List.set_cons_succ]) | (refine wpS_take _ ?_ rfl (by rfl) ?_ ?_; rotate_left; (focus (intro w' hS'; (try dsimp only at hS'); (repeat (have hS1 := hS'.1; replace hS' := hS'.2)); go_simp; (try with_reducible rfl); done)); simp only [Act.put, List.getElem_toArray, List.getElem_cons_zero, List.getElem_cons_succ, List.setIfInBounds_toArray, List.set_cons_zero, List.set_cons_succ])))
            refine wpS_done ?_
            have hR3' : wr.drew.cell? ⟨bR, oR + k, none⟩ = some (.int .i64 (d : Int)) := hR3
            have HOQ : Hid (wr.drew.ownsRow w2.heap.size 3 1 (.slice (some ⟨bS, oS, none⟩) (k + 1) cn) (k + 1) (nats (levs a b (i0 + 1) (k + 1)))) := Lib.hid (own_below HO.out (Below.refl _ _).drew)
            have HBQ : Hid (Below w2.heap.size w2 wr.drew) := Lib.hid HBI.out.drew
            generalize wr.drew = WQ at *
            obtain ⟨W6, hW6⟩ : ∃ W, WQ.alloc (.cells #[.int .i64 ((u : Int) + 1)] 3) = W := ⟨_, rfl⟩
            obtain ⟨r6, b6, s6⟩ := new_row hW6
            have HO6 := Lib.hid (own_below HOQ.out b6)
            have HR6 : Hid (Rd W6 (some ⟨WQ.heap.size, 0, none⟩) [.int .i64 ((u : Int) + 1)]) := Lib.hid (range_rd (range_of_row (cs := [.int .i64 ((u : Int) + 1)]) r6))
            have HBX : Hid (Below w2.heap.size w2 W6) := Lib.hid (ext_trans HBQ.out b6)
            have HBA := Lib.hid HBX.out.size
            clear r6 b6 s6
            go_wp2_with (at_builtin; refine wpList_append_rd _ rfl _ _ 57 rfl w2.heap.size 3 _ 1 8 Tryd.underlying57 info_int rfl (by decide) (.slice (some ⟨bS, oS, none⟩) (k + 1) cn) (k + 1) _ rfl HO6.out _ 1 1 [.int .i64 ((u : Int) + 1)] rfl rfl HR6.out (nats_one [u + 1]) (by unfold maxLen; omega) (by omega) HBA.out ?_; intro v9 w9 ho9 hg9 hvb9; obtain ⟨A9, c9, e9, _⟩ := own_slice ho9; subst e9; have HO9 := Lib.hid ho9; have HB9 := Lib.hid (bel_own HBX.out rfl HO6.out hg9); clear ho9 hg9 hvb9)
            have HVAL : Hid (nats (levs a b (i0 + 1) (k + 1 + 1)) = nats (levs a b (i0 + 1) (k + 1)) ++ [.int .i64 ((u : Int) + 1)]) := Lib.hid (by rw [HLS.out, nats_app, HRES.out]; rfl)
            clear hA2 hB2 hR2 hR3 hS2 heq hW6 hR3'
            rw [← XA.out, ← XB.out, ← XR.out]
            go_roundg (m - (k + 1))
            case measure => omega
            case rel => exact ⟨k + 1, A9, c9, by omega, rfl, rfl, by first | rfl | exact congrArg (Value.int .i64) (by omega) | go_num, Lib.hid (by rw [HVAL.out]; exact HO9.out), HB9⟩
        · have heq : ∀ w, (binOp .eql 9 (.string x) (.string y)).run Tryd.prog w = .ok (.bool false) w := fun w => by rw [bin_streq Tryd.underlying9, decide_eq_false hxy]
          have HRES : Hid (lev a b (i0 + 1) (k + 1) = u + 1) := Lib.hid (by rw [HSS.out, hmin, if_neg (fun h => hxy (Option.some.inj h.1))])
          clear hxy hmin hvu
          go_wp2_with fail
          refine wp_region_sched (fun w' => w'.cell? ⟨bA, oA + i0, none⟩ = some (.string x) ∧ w'.cell? ⟨bB, oB + k, none⟩ = some (.string y) ∧ w'.cell? ⟨bR, oR + k, none⟩ = some (.int .i64 (d : Int))) [(true, 0), (true, 1), (true, 2), (true, 3), (true, 4), (true, 5), (true, 6), (true, 7), (true, 8), (true, 9), (true, 10), (true, 11), (true, 12), (true, 13), (true, 14), (true, 15), (true, 16), (true, 17), (true, 18), (true, 19)] (by kernel_rfl) (by kernel_rfl) rfl (by kernel_rfl) ⟨hA2, hB2, hR3⟩ ?_
          (first | (refine wpS_pass _ rfl (by rfl) ?_; simp only [Act.put, List.getElem_toArray, List.getElem_cons_zero, List.getElem_cons_succ, List.setIfInBounds_toArray, List.set_cons_zero, List.set_cons_succ]) | (refine wpS_take _ ?_ rfl (by rfl) ?_ ?_; rotate_left; (focus (intro w' hS'; (try dsimp only at hS'); (repeat (have hS1 := hS'.1; replace hS' := hS'.2)); go_simp; (try with_reducible rfl); done)); simp only [Act.put, List.getElem_toArray, List.getElem_cons_zero, List.getElem_cons_succ, List.setIfInBounds_toArray, List.set_cons_zero, List.set_cons_succ]))
          (first | (refine wpS_pass _ rfl (by rfl) ?_; simp only [Act.put, List.getElem_toArray, List.getElem_cons_zero, List.getElem_cons_succ, List.setIfInBounds_toArray, List.set_cons_zero, List.set_cons_succ]) | (refine wpS_take _ ?_ rfl (by rfl) ?_ ?_; rotate_left; (focus (intro w' hS'; (try dsimp only at hS'); (repeat (have hS1 := hS'.1; replace hS' := hS'.2)); go_simp; (try with_reducible rfl); done)); simp only [Act.put, List.getElem_toArray, List.getElem_cons_zero, List.getElem_cons_succ, List.setIfInBounds_toArray, List.set_cons_zero, List.set_cons_succ]))
          (first | (refine wpS_pass _ rfl (by rfl) ?_; simp only [Act.put, List.getElem_toArray, List.getElem_cons_zero, List.getElem_cons_succ, List.setIfInBounds_toArray, List.set_cons_zero, List.set_cons_succ]) | (refine wpS_take _ ?_ rfl (by rfl) ?_ ?_; rotate_left; (focus (intro w' hS'; (try dsimp only at hS'); (repeat (have hS1 := hS'.1; replace hS' := hS'.2)); go_simp; (try with_reducible rfl); done)); simp only [Act.put, List.getElem_toArray, List.getElem_cons_zero, List.getElem_cons_succ, List.setIfInBounds_toArray, List.set_cons_zero, List.set_cons_succ]))
          (first | (refine wpS_pass _ rfl (by rfl) ?_; simp only [Act.put, List.getElem_toArray, List.getElem_cons_zero, List.getElem_cons_succ, List.setIfInBounds_toArray, List.set_cons_zero, List.set_cons_succ]) | (refine wpS_take _ ?_ rfl (by rfl) ?_ ?_; rotate_left; (focus (intro w' hS'; (try dsimp only at hS'); (repeat (have hS1 := hS'.1; replace hS' := hS'.2)); go_simp; (try with_reducible rfl); done)); simp only [Act.put, List.getElem_toArray, List.getElem_cons_zero, List.getElem_cons_succ, List.setIfInBounds_toArray, List.set_cons_zero, List.set_cons_succ]))
          (first | (refine wpS_pass _ rfl (by rfl) ?_; simp only [Act.put, List.getElem_toArray, List.getElem_cons_zero, List.getElem_cons_succ, List.setIfInBounds_toArray, List.set_cons_zero, List.set_cons_succ]) | (refine wpS_take _ ?_ rfl (by rfl) ?_ ?_; rotate_left; (focus (intro w' hS'; (try dsimp only at hS'); (repeat (have hS1 := hS'.1; replace hS' := hS'.2)); go_simp; (try with_reducible rfl); done)); simp only [Act.put, List.getElem_toArray, List.getElem_cons_zero, List.getElem_cons_succ, List.setIfInBounds_toArray, List.set_cons_zero, List.set_cons_succ]))
          (first | (refine wpS_pass _ rfl (by rfl) ?_; simp only [Act.put, List.getElem_toArray, List.getElem_cons_zero, List.getElem_cons_succ, List.setIfInBounds_toArray, List.set_cons_zero, List.set_cons_succ]) | (refine wpS_take _ ?_ rfl (by rfl) ?_ ?_; rotate_left; (focus (intro w' hS'; (try dsimp only at hS'); (repeat (have hS1 := hS'.1; replace hS' := hS'.2)); go_simp; (try with_reducible rfl); done)); simp only [Act.put, List.getElem_toArray, List.getElem_cons_zero, List.getElem_cons_succ, List.setIfInBounds_toArray, List.set_cons_zero, List.set_cons_succ]))
          (first | (refine wpS_pass _ rfl (by rfl) ?_; simp only [Act.put, List.getElem_toArray, List.getElem_cons_zero, List.getElem_cons_succ, List.setIfInBounds_toArray, List.set_cons_zero, List.set_cons_succ]) | (refine wpS_take _ ?_ rfl (by rfl) ?_ ?_; rotate_left; (focus (intro w' hS'; (try dsimp only at hS'); (repeat (have hS1 := hS'.1; replace hS' := hS'.2)); go_simp; (try with_reducible rfl); done)); simp only [Act.put, List.getElem_toArray, List.getElem_cons_zero, List.getElem_cons_succ, List.setIfInBounds_toArray, List.set_cons_zero, List.set_cons_succ]))
          (first | (refine wpS_pass _ rfl (by rfl) ?_; simp only [Act.put, List.getElem_toArray, List.getElem_cons_zero, List.getElem_cons_succ, List.setIfInBounds_toArray, List.set_cons_zero, List.set_cons_succ]) | (refine wpS_take _ ?_ rfl (by rfl) ?_ ?_; rotate_left; (focus (intro w' hS'; (try dsimp only at hS'); (repeat (have hS1 := hS'.1; replace hS' := hS'.2)); go_simp; (try with_reducible rfl); done)); simp only [Act.put, List.getElem_toArray, List.getElem_cons_zero, List.getElem_cons_succ, List.setIfInBounds_toArray, List.set_cons_zero, List.set_cons_succ]))
          (first | (refine wpS_pass _ rfl (by rfl) ?_; simp only [Act.put, List.getElem_toArray, List.getElem_cons_zero, List.getElem_cons_succ, List.setIfInBounds_toArray, List.set_cons_zero, List.set_cons_succ]) | (refine wpS_take _ ?_ rfl (by rfl) ?_ ?_; rotate_left; (focus (intro w' hS'; (try dsimp only at hS'); (repeat (have hS1 := hS'.1; replace hS' := hS'.2)); go_simp; (try with_reducible rfl); done)); simp only [Act.put, List.getElem_toArray, List.getElem_cons_zero, List.getElem_cons_succ, List.setIfInBounds_toArray, List.set_cons_zero, List.set_cons_succ]))
          (first | (refine wpS_pass _ rfl (by rfl) ?_; simp only [Act.put, List.getElem_toArray, List.getElem_cons_zero, List.getElem_cons_succ, List.setIfInBounds_toArray, List.set_cons_zero, List.set_cons_succ]) | (refine wpS_take _ ?_ rfl (by rfl) ?_ ?_; rotate_left; (focus (intro w' hS'; (try dsimp only at hS'); (repeat (have hS1 := hS'.1; replace hS' := hS'.2)); go_simp; (try with_reducible rfl); done)); simp only [Act.put, List.getElem_toArray, List.getElem_cons_zero, List.getElem_cons_succ, List.setIfInBounds_toArray, List.set_cons_zero, List.set_cons_succ]))
          refine wpS_take _ _ rfl (by rfl) (fun w' hS' => exec_bin _ _ _ _ _ rfl _ _ _ rfl rfl rfl (heq w')) ?_
          simp only [Act.put, List.getElem_toArray, List.getElem_cons_zero, List.getElem_cons_succ, List.setIfInBounds_toArray, List.set_cons_zero, List.set_cons_succ]
          (repeat (first | (refine wpS_pass _ rfl (by rfl) ?_; simp only [Act.put, List.getElem_toArray, List.getElem_cons_zero, List.getElem_cons_succ, List.setIfInBounds_toArray, List.set_cons_zero, List.set_cons_succ]) | (refine wpS_take _ ?_ rfl (by rfl) ?_ ?_; rotate_left; (focus (intro w' hS'; (try dsimp only at hS'); (repeat (have hS1 := hS'.1; replace hS' := hS'.2)); go_simp; (try with_reducible rfl); done)); simp only [Act.put, List.getElem_toArray, List.getElem_cons_zero, List.getElem_cons_succ, List.setIfInBounds_toArray, List.set_cons_zero, List.set_cons_succ])))
          refine wpS_done ?_
          have hR3' : wr.drew.cell? ⟨bR, oR + k, none⟩ = some (.int .i64 (d : Int)) := hR3
          have HOQ : Hid (wr.drew.ownsRow w2.heap.size 3 1 (.slice (some ⟨bS, oS, none⟩) (k + 1) cn) (k + 1) (nats (levs a b (i0 + 1) (k + 1)))) := Lib.hid (own_below HO.out (Below.refl _ _).drew)
          have HBQ : Hid (Below w2.heap.size w2 wr.drew) := Lib.hid HBI.out.drew
          generalize wr.drew = WQ at *
          obtain ⟨W6, hW6⟩ : ∃ W, WQ.alloc (.cells #[.int .i64 ((u : Int) + 1)] 3) = W := ⟨_, rfl⟩
          obtain ⟨r6, b6, s6⟩ := new_row hW6
          have HO6 := Lib.hid (own_below HOQ.out b6)
          have HR6 : Hid (Rd W6 (some ⟨WQ.heap.size, 0, none⟩) [.int .i64 ((u : Int) + 1)]) := Lib.hid (range_rd (range_of_row (cs := [.int .i64 ((u : Int) + 1)]) r6))
          have HBX : Hid (Below w2.heap.size w2 W6) := Lib.hid (ext_trans HBQ.out b6)
          have HBA := Lib.hid HBX.out.size
          clear r6 b6 s6
          go_wp2_with (at_builtin; refine wpList_append_rd _ rfl _ _ 57 rfl w2.heap.size 3 _ 1 8 Tryd.underlying57 info_int rfl (by decide) (.slice (some ⟨bS, oS, none⟩) (k + 1) cn) (k + 1) _ rfl HO6.out _ 1 1 [.int .i64 ((u : Int) + 1)] rfl rfl HR6.out (nats_one [u + 1]) (by unfold maxLen; omega) (by omega) HBA.out ?_; intro v9 w9 ho9 hg9 hvb9; obtain ⟨A9, c9, e9, _⟩ := own_slice ho9; subst e9; have HO9 := Lib.hid ho9; have HB9 := Lib.hid (bel_own HBX.out rfl HO6.out hg9); clear ho9 hg9 hvb9)
          have HVAL : Hid (nats (levs a b (i0 + 1) (k + 1 + 1)) = nats (levs a b (i0 + 1) (k + 1)) ++ [.int .i64 ((u : Int) + 1)]) := Lib.hid (by rw [HLS.out, nats_app, HRES.out]; rfl)
          clear hA2 hB2 hR2 hR3 hS2 heq hW6 hR3'
          rw [← XA.out, ← XB.out, ← XR.out]
          go_roundg (m - (k + 1))
          case measure => omega
          case rel => exact ⟨k + 1, A9, c9, by omega, rfl, rfl, by first | rfl | exact congrArg (Value.int .i64) (by omega) | go_num, Lib.hid (by rw [HVAL.out]; exact HO9.out), HB9⟩
    · obtain rfl : k = m := by omega
      have j2 : ¬ ((k : Int) + 1 ≤ (k : Int)) := by omega
      have HRN : Hid (Rd wr An (nats (levs a b (i0 + 1) (k + 1)))) := Lib.hid (own_rd HO.out)
      have HBN : Hid (Below w.heap.size w wr) := Lib.hid (ext_trans HBW.out HBI.out)
      clear hkm hk
      go_wp2_with fail
      go_roundg (n - (i0 + 1))
      case measure => omega
      case rel => exact ⟨i0 + 1, An, cn, by omega, rfl, rfl, by first | rfl | exact congrArg (Value.int .i64) (by omega) | go_num, HRN, HBN⟩
  · obtain rfl : i0 = n := by omega
    have j2 : ¬ ((i0 : Int) + 1 ≤ (i0 : Int)) := by omega
    obtain ⟨bR, oR, hR1, hR2⟩ := HR.out m _ (levs_get a b i0 (m + 1) m (by omega))
    subst hR1
    have j3 : (m : Int) < (m : Int) + 1 := by omega
    clear hlt hi0
    go_wp2_with fail
    go_ret
    exact ⟨rfl, HBW.out⟩
end Go.Proofs.YtmniggjadfdheaaDoor
