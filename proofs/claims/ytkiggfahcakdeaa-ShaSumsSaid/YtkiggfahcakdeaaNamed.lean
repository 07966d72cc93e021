
/- What a Named answers: Of, ID (first, again), Bytes, Sums. -/

import Derived.Test.YtkiggfahcakdeaaOnce

import Derived.Test.YtkiggfahcakdeaaClone

namespace Go.Proofs.Ytkiggfahcakdeaa

set_option linter.unusedVariables false

set_option linter.unusedSimpArgs false

open Go.RowKit

theorem World.grownBy_drew_self (w : World) (g : Nat) : w.grownBy w.drew (some g) := ⟨rfl, rfl, rfl, Nat.le_refl _, fun _ _ _ => rfl⟩
theorem done_load (a : Addr) (d : Int) (b : Bool) (hb : (d != 0) = b) (w : World) (hc : w.cell? a = some (.int .u32 d)) :
    Calls Try.prog 51 #[.pointer (some a)] w fun e w' => w = w' ∧ e = .returned (.bool b) := by
  have hl := run_call_load (P := Try.prog) Try.func59 (by kernel_rfl) (by kernel_rfl) (by kernel_rfl) .u32 (by kernel_rfl) hc
  subst hb
  go_enter Try.func51, Try.ntmps51
  go_wp2
  go_ret
  exact ⟨rfl, rfl⟩
theorem sums_load (a : Addr) (n : Int) (w : World) (hc : w.cell? a = some (.int .i64 n)) :
    Calls Try.prog 43 #[.pointer (some a)] w fun e w' => w = w' ∧ e = .returned (.int .i64 n) := by
  have hl := run_call_load (P := Try.prog) Try.func54 (by kernel_rfl) (by kernel_rfl) (by kernel_rfl) .i64 (by kernel_rfl) hc
  go_enter Try.func43, Try.ntmps43
  go_wp2
  go_ret
  exact ⟨rfl, rfl⟩
theorem sums_add (a : Addr) (w : World) (hc : w.cell? a = some (.int .i64 0)) (hz : w.frozen? a = false) :
    Calls Try.prog 42 #[.pointer (some a), .int .i64 1] w fun e w' => w' = w.setCell a (.int .i64 1) ∧ e = .returned (.int .i64 1) := by
  have hadd := run_call_add (P := Try.prog) Try.func53 (by kernel_rfl) (by kernel_rfl) (by kernel_rfl) .i64 (by kernel_rfl) (y := 1) (s := 1) hc hz (by simp [go_sem]; rfl)
  go_enter Try.func42, Try.ntmps42
  go_wp2
  go_ret
  exact ⟨rfl, rfl⟩
/-- how often the sum was made -/
theorem sums_any (g : Nat) (v : Value) (d m : Int) (id : List UInt8) (n : Int) (w : World) (hN : NamedAt w g v d m id n) :
    Calls Try.prog 24 #[.pointer (some ⟨g, 0, none⟩)] w fun e w' => w = w' ∧ e = .returned (.int .i64 n) := by
  have hc := hN.c36
  have HC := Lib.hid hc
  clear hc
  go_enter Try.func24, Try.ntmps24
  go_wp2_with fail
  refine (sums_load _ n _ HC.out).mono ?_
  rintro e w' ⟨rfl, rfl⟩
  go_wp2_with fail
  go_ret
  exact ⟨rfl, rfl⟩
/-- the bytes: a copy -/
theorem bytes_any (g : Nat) (A : Option Addr) (bs : List UInt8) (k c : Nat) (hk : k = bs.length) (d m : Int) (id : List UInt8) (n : Int) (w : World) (hr : Rd w A (b8s bs)) (hm : bs.length ≤ 140737488355328) (hN : NamedAt w g (.slice A k c) d m id n) :
    Calls Try.prog 25 #[.pointer (some ⟨g, 0, none⟩)] w fun e w' => ∃ v, e = .returned v ∧ Own8 w.heap.size w w' v bs := by
  subst hk
  have hc := hN.c0
  have HR := Lib.hid hr
  clear hr
  go_enter Try.func25, Try.ntmps25
  go_wp2_with fail
  refine (clone_any A bs c w HR.out hm).mono ?_
  rintro e w' ⟨v, rfl, hown⟩
  go_wp2_with fail
  go_ret
  exact ⟨_, rfl, hown⟩
/-- bytes with a name -/
theorem of_any (A : Option Addr) (bs : List UInt8) (k c : Nat) (hk : k = bs.length) (w : World) (hr : Rd w A (b8s bs)) (hm : bs.length ≤ 140737488355328) :
    Calls Try.prog 22 #[.slice A k c] w fun e w' => ∃ g A' c', e = .returned (.pointer (some ⟨g, 0, none⟩)) ∧ NamedAt w' g (.slice A' bs.length c') 0 0 zeros32 0 ∧ Rd w' A' (b8s bs) ∧ (∀ ad, A' = some ad → ad.block ≠ g ∧ w.heap.size ≤ ad.block) ∧ bs.length ≤ c' ∧ c' ≤ 9223372036854775807 ∧ Below w.heap.size w w' ∧ w.heap.size ≤ g := by
  subst hk
  have HR := Lib.hid hr
  clear hr
  go_enter Try.func22, Try.ntmps22
  go_wp2_with fail
  refine (clone_any A bs c w HR.out hm).mono ?_
  rintro e w1 ⟨v, rfl, hown⟩
  have hb := hown.bel
  have hsz := hown.sz
  obtain ⟨A', c', rfl, hc1, hc2, hr', hbk⟩ := hown.slice
  have HR' := Lib.hid hr'
  unfold maxLen at hc2
  clear hown hr'
  go_wp2_with fail
  go_ret
  refine ⟨_, _, _, rfl, ⟨rfl, heap_alloc_new w1 _⟩, HR'.out.alloc _, ?_, hc1, hc2, hb.alloc hsz _, hsz⟩
  intro ad h
  have := hbk ad h
  exact ⟨by omega, this.1⟩

set_option maxRecDepth 100000 in
set_option maxHeartbeats 1000000 in
/-- the closure: the sum is made, and counted -/
theorem makes_any (g : Nat) (pl : Addr) (A : Option Addr) (bs id : List UInt8) (c : Nat) (w : World) (hpl : pl.block ≠ g) (hr : Rd w A (b8s bs)) (hm : bs.length ≤ 140737488355328) (hcap : bs.length ≤ c) (hc2 : c ≤ 9223372036854775807)
    (hp : w.cell? pl = some (.pointer (some ⟨g, 0, none⟩))) (hN : NamedAt w g (.slice A bs.length c) 0 1 id 0) :
    Calls Try.prog 41 #[.pointer (some pl)] w fun e w' => e = .returned (.tuple #[]) ∧ NamedAt w' g (.slice A bs.length c) 0 1 (shaL bs) 1 ∧ w.grownBy w' (some g) := by
  have hc := hN.c0
  have HR := Lib.hid hr
  have HN := Lib.hid hN
  have hpb := World.block_lt_of_cell? w pl hp
  clear hr hN
  go_enter Try.func41, Try.ntmps41
  go_wp2_with fail
  refine wp_region_sched (fun w' => w'.cell? pl = some (.pointer (some ⟨g, 0, none⟩)) ∧ w'.cell? ⟨g, 0, none⟩ = some (.slice A bs.length c)) [(true, 0), (true, 1), (true, 2), (true, 3), (true, 4), (false, 5), (true, 6), (true, 7), (false, 8)] (by kernel_rfl) (by kernel_rfl) rfl (by kernel_rfl) ⟨by simpa using hp, by simpa using hc⟩ ?_
  (repeat (first | (refine wpS_pass _ rfl (by rfl) ?_; simp only [Act.put, List.getElem_toArray, List.getElem_cons_zero, List.getElem_cons_succ, List.setIfInBounds_toArray, List.set_cons_zero, List.set_cons_succ]) | (refine wpS_take _ ?_ rfl (by rfl) ?_ ?_; rotate_left; (focus (intro w' hS'; (try dsimp only at hS'); (repeat (have hS1 := hS'.1; replace hS' := hS'.2)); go_simp; (try with_reducible rfl); done)); simp only [Act.put, List.getElem_toArray, List.getElem_cons_zero, List.getElem_cons_succ, List.setIfInBounds_toArray, List.set_cons_zero, List.set_cons_succ])))
  refine wpS_do _ rfl (by rfl) (fun K hK => ?_)
  go_simp
  refine (sum_any A bs c w.drew HR.out.drew hm hcap hc2).mono ?_
  rintro e w1 ⟨rfl, hb1⟩
  have hbw : Below w.heap.size w w1 := (Below.refl _ _).drew.trans hb1
  have hN1 := HN.out.keep hbw
  have hp1 : w1.cell? pl = some (.pointer (some ⟨g, 0, none⟩)) := (World.cell?_of_block (a := pl) (hbw.block _ hpb)).trans hp
  refine hK.out _ _ ⟨hp1, hN1.c0⟩ (fun hS => ?_)
  clear hK hS hc hp
  have hN2 := hN1.setId (shaL bs) rfl
  have hg2 := setCells_grown g (b8s (shaL bs)) 4 w1
  have hlt := hN1.lt
  have hp2 : (w1.setCells g 4 (b8s (shaL bs))).cell? pl = some (.pointer (some ⟨g, 0, none⟩)) := by
    rw [World.cell?_of_block (w := w1) (a := pl) (setCells_other g _ _ _ _ hpl)]
    exact hp1
  have HTH := Lib.hid hN1.there
  have HN2 := Lib.hid hN2
  have HIV : Hid ((Try.prog.info? 23).map (·.size) = some (b8s (shaL bs)).toArray.size) := Lib.hid (info_of_arr _ rfl info_id)
  have hg3 := Lib.hid (grown_trans1 (grown_of_below hbw) hg2)
  have HP2 := Lib.hid hp2
  clear hN1 hN2 hp2 hg2
  (repeat (first | (refine wpS_pass _ rfl (by rfl) ?_; simp only [Act.put, List.getElem_toArray, List.getElem_cons_zero, List.getElem_cons_succ, List.setIfInBounds_toArray, List.set_cons_zero, List.set_cons_succ]) | (refine wpS_take _ ?_ rfl (by rfl) ?_ ?_; rotate_left; (focus (intro w' hS'; (try dsimp only at hS'); (repeat (have hS1 := hS'.1; replace hS' := hS'.2)); go_simp; (try with_reducible rfl); done)); simp only [Act.put, List.getElem_toArray, List.getElem_cons_zero, List.getElem_cons_succ, List.setIfInBounds_toArray, List.set_cons_zero, List.set_cons_succ])))
  refine wpS_do _ rfl (by rfl) (fun K hK => ?_)
  refine wp_store_mid _ _ _ rfl g 4 (b8s (shaL bs)).toArray rfl rfl HTH.out HIV.out (all_oneCell_toArray (b8s_one' _)) ?_
  have hW : ∃ W3, w1.setCells g 4 (b8s (shaL bs)).toArray.toList = W3 := ⟨_, rfl⟩
  obtain ⟨W3, hW3⟩ := hW
  have hN3 : NamedAt W3 g (.slice A bs.length c) 0 1 (shaL bs) 0 := by rw [← hW3]; exact HN2.out
  have hg4 : w.grownBy W3 (some g) := by rw [← hW3]; exact hg3.out
  have hp3 : W3.cell? pl = some (.pointer (some ⟨g, 0, none⟩)) := by rw [← hW3]; exact HP2.out
  rw [hW3]
  refine hK.out _ _ ⟨hp3, hN3.c0⟩ (fun hS => ?_)
  have h36 := hN3.c36
  have f36 := hN3.free 36
  have HN3 := Lib.hid hN3
  clear hK hS hW3 HN2 hg3 HP2 HTH HIV hN3 hp1 
  refine wpS_done ?_
  go_wp2_with fail
  refine (sums_add ⟨g, 36, none⟩ W3 h36 f36).mono ?_
  rintro e w' ⟨rfl, rfl⟩
  go_wp2_with fail
  go_end0
  exact ⟨rfl, HN3.out.set36 1, grown_trans1 hg4 (grown_set g 36 _)⟩

set_option maxRecDepth 100000 in
theorem slow_any (g : Nat) (pl : Addr) (hpl : pl.block ≠ g) (A : Option Addr) (bs id : List UInt8) (c : Nat) (w : World) (hr : Rd w A (b8s bs)) (hAg : ∀ ad, A = some ad → ad.block ≠ g) (hm : bs.length ≤ 140737488355328) (hcap : bs.length ≤ c) (hc2 : c ≤ 9223372036854775807)
    (hp : w.cell? pl = some (.pointer (some ⟨g, 0, none⟩))) (hN : NamedAt w g (.slice A bs.length c) 0 0 id 0) :
    Calls Try.prog 52 #[.pointer (some ⟨g, 1, none⟩), .func (.func 41) #[] #[.pointer (some pl)]] w fun e w' => e = .returned (.tuple #[]) ∧ NamedAt w' g (.slice A bs.length c) 1 0 (shaL bs) 1 ∧ w.grownBy w' (some g) := by
  have h2 := hN.c2
  have hN1 := hN.set2 1
  have h1 := hN1.c1
  have f2 := hN.free 2
  have hnot : ∀ (x : Bool) (w : World), (Op.unary .not (.bool x)).run Try.prog w = .ok (.bool (!x)) w := fun _ _ => rfl
  have HN1 := Lib.hid hN1
  clear hN1
  go_enter_defers Try.func52, Try.ntmps52
  go_wp2_with (go_at_call 60; refine (lock_free ⟨g, 2, none⟩ _ (by go_simp) (by go_simp)).mono ?_; rintro e w' ⟨rfl, rfl⟩)
  refine (done_load _ 0 false rfl _ h1).mono ?_
  rintro e w' ⟨rfl, rfl⟩
  have hp1 : (w.setCell ⟨g, 2, none⟩ (.int .i32 1)).cell? pl = some (.pointer (some ⟨g, 0, none⟩)) := by rw [World.cell?_setCell_far _ _ _ _ (fun e => hpl e.symm)]; exact hp
  have hr1 : Rd (w.setCell ⟨g, 2, none⟩ (.int .i32 1)) A (b8s bs) := hr.setCell hAg _
  have HR1 := Lib.hid hr1
  have HP1 := Lib.hid hp1
  clear hr1 hp1
  go_wp2_with fail
  refine (makes_any g pl A bs id c _ hpl HR1.out hm hcap hc2 HP1.out HN1.out).mono ?_
  rintro e w1 ⟨rfl, hN2, hg⟩
  have hN3 := HN1.out
  have c1 := hN2.c1
  have z1 := hN2.free 1
  have hN4 : NamedAt (w1.drew.setCell ⟨g, 1, none⟩ (.int .u32 1)) g (.slice A bs.length c) 1 1 (shaL bs) 1 := NamedAt.set1 (w := w1.drew) hN2 1
  have hgg := grown_trans1 (grown_trans1 (grown_trans1 (grown_set (w := w) g 2 (.int .i32 1)) hg) (World.grownBy_drew_self w1 g)) (grown_set (w := w1.drew) g 1 (.int .u32 1))
  go_wp2_with fail
  refine leaves_cons (f := 62) (args := #[.pointer (some ⟨g, 1, none⟩), .bool true]) (by simp) (by simp [go_sem]) ?_
  refine (store_deferred ⟨g, 1, none⟩ (.int .u32 0) .returning _ c1 z1).mono ?_
  rintro e u' w'' ⟨rfl, rfl, rfl⟩
  refine leaves_cons (f := 61) (args := #[.pointer (some ⟨g, 2, none⟩)]) (by simp [settle]) (by simp [go_sem]) ?_
  refine (unlock_deferred ⟨g, 2, none⟩ _ _ hN4.c2 (hN4.free 2)).mono ?_
  rintro e u' w'' ⟨rfl, rfl, rfl⟩
  have hN5 := hN4.set2 0
  have hg5 := grown_trans1 hgg (grown_set g 2 (.int .i32 0))
  simp [Leaves, settle, results, Try.results52]
  exact ⟨hN5, hg5⟩

set_option maxRecDepth 100000 in
theorem do_first (g : Nat) (pl : Addr) (hpl : pl.block ≠ g) (A : Option Addr) (bs id : List UInt8) (c : Nat) (w : World) (hr : Rd w A (b8s bs)) (hAg : ∀ ad, A = some ad → ad.block ≠ g) (hm : bs.length ≤ 140737488355328) (hcap : bs.length ≤ c) (hc2 : c ≤ 9223372036854775807)
    (hp : w.cell? pl = some (.pointer (some ⟨g, 0, none⟩))) (hN : NamedAt w g (.slice A bs.length c) 0 0 id 0) :
    Calls Try.prog 40 #[.pointer (some ⟨g, 1, none⟩), .func (.func 41) #[] #[.pointer (some pl)]] w fun e w' => e = .returned (.tuple #[]) ∧ NamedAt w' g (.slice A bs.length c) 1 0 (shaL bs) 1 ∧ w.grownBy w' (some g) := by
  have h1 := Lib.hid hN.c1
  have HS := Lib.hid (slow_any g pl hpl A bs id c w hr hAg hm hcap hc2 hp hN)
  have hnot : ∀ (x : Bool) (w : World), (Op.unary .not (.bool x)).run Try.prog w = .ok (.bool (!x)) w := fun _ _ => rfl
  clear hr hAg hp hN
  go_enter Try.func40, Try.ntmps40
  go_wp2_with fail
  refine (done_load _ 0 false rfl _ h1.out).mono ?_
  rintro e w' ⟨rfl, rfl⟩
  go_wp2_with fail
  refine HS.out.mono ?_
  rintro e w' ⟨rfl, hN', hg⟩
  go_wp2_with fail
  go_end0
  exact ⟨rfl, hN', hg⟩
set_option maxRecDepth 100000 in
theorem do_done (a : Addr) (fv : Value) (w : World) (h0 : w.cell? a = some (.int .u32 1)) :
    Calls Try.prog 40 #[.pointer (some a), fv] w fun e w' => w = w' ∧ e = .returned (.tuple #[]) := by
  have h1 := Lib.hid h0
  have hnot : ∀ (x : Bool) (w : World), (Op.unary .not (.bool x)).run Try.prog w = .ok (.bool (!x)) w := fun _ _ => rfl
  clear h0
  go_enter Try.func40, Try.ntmps40
  go_wp2_with fail
  refine (done_load _ 1 true rfl _ h1.out).mono ?_
  rintro e w' ⟨rfl, rfl⟩
  go_wp2_with fail
  go_end0
  exact ⟨rfl, rfl⟩

set_option maxRecDepth 100000 in
set_option maxHeartbeats 1000000 in
/-- the name, asked first -/
theorem id_first (g : Nat) (A : Option Addr) (bs id : List UInt8) (c : Nat) (w : World) (hr : Rd w A (b8s bs)) (hAg : ∀ ad, A = some ad → ad.block ≠ g) (hm : bs.length ≤ 140737488355328) (hcap : bs.length ≤ c) (hc2 : c ≤ 9223372036854775807)
    (hN : NamedAt w g (.slice A bs.length c) 0 0 id 0) :
    Calls Try.prog 23 #[.pointer (some ⟨g, 0, none⟩)] w fun e w' => e = .returned (.agg (b8s (shaL bs)).toArray) ∧ NamedAt w' g (.slice A bs.length c) 1 0 (shaL bs) 1 ∧ w.grownBy w' (some g) := by
  have hmf : ∀ (fn : Fn) (first cap : Array Value) (w : World), (Instr.makeFunc fn first cap).run Try.prog w = .ok (.func fn first cap) w := fun _ _ _ _ => rfl
  obtain ⟨W2, hW2⟩ : ∃ W2, (w.alloc (.cells #[.pointer (some ⟨g, 0, none⟩)] 45)).alloc (.cells #[Value.int .u8 0, Value.int .u8 0, Value.int .u8 0, Value.int .u8 0, Value.int .u8 0, Value.int .u8 0, Value.int .u8 0, Value.int .u8 0, Value.int .u8 0, Value.int .u8 0, Value.int .u8 0, Value.int .u8 0, Value.int .u8 0, Value.int .u8 0, Value.int .u8 0, Value.int .u8 0, Value.int .u8 0, Value.int .u8 0, Value.int .u8 0, Value.int .u8 0, Value.int .u8 0, Value.int .u8 0, Value.int .u8 0, Value.int .u8 0, Value.int .u8 0, Value.int .u8 0, Value.int .u8 0, Value.int .u8 0, Value.int .u8 0, Value.int .u8 0, Value.int .u8 0, Value.int .u8 0] 23) = W2 := ⟨_, rfl⟩
  have hb : Below w.heap.size w W2 := by rw [← hW2]; exact ((Below.refl _ _).alloc (Nat.le_refl _) _).alloc (by simp) _
  have hsz : W2.heap.size = w.heap.size + 2 := by rw [← hW2]; simp
  have hbx : W2.heap[w.heap.size]? = some (.cells #[.pointer (some ⟨g, 0, none⟩)] 45 (0, 0)) := by rw [← hW2]; exact (Below.heap_alloc _ _ _ (by simp)).trans (heap_alloc_new w _)
  have hid : W2.heap[w.heap.size + 1]? = some (.cells (b8s zeros32).toArray 23 (0, 0)) := by
    rw [← hW2]
    have := heap_alloc_new (w.alloc (.cells #[.pointer (some ⟨g, 0, none⟩)] 45)) (.cells (b8s zeros32).toArray 23 (0, 0))
    rwa [show (w.alloc (.cells #[.pointer (some ⟨g, 0, none⟩)] 45)).heap.size = w.heap.size + 1 by simp] at this
  have hlt := hN.lt
  have hp : W2.cell? ⟨w.heap.size, 0, none⟩ = some (.pointer (some ⟨g, 0, none⟩)) := by rw [row_cell hbx]; rfl
  have HD := Lib.hid (do_first g ⟨w.heap.size, 0, none⟩ (show w.heap.size ≠ g by omega) A bs id c W2 (hr.below hb) hAg hm hcap hc2 hp (hN.keep hb))
  have HB := Lib.hid hb
  have HSZ := Lib.hid hsz
  have HID := Lib.hid hid
  have HBX := Lib.hid hbx
  clear hr hN hb hsz hid hbx
  go_enter Try.func23, Try.ntmps23
  go_wp2_with fail
  refine HD.out.mono ?_
  rintro e w3 ⟨rfl, hN3, hg3⟩
  have hs3 := HSZ.out
  have h3 := hg3.size
  have hp3 : w3.cell? ⟨w.heap.size, 0, none⟩ = some (.pointer (some ⟨g, 0, none⟩)) := by
    rw [row_cell ((hg3.block w.heap.size (by omega) (by simp; omega)).trans HBX.out)]; rfl
  have hi3 := (hg3.block (w.heap.size + 1) (by omega) (by simp; omega)).trans HID.out
  have HR3 := Lib.hid hN3.range
  have HIV : Hid ((Try.prog.info? 23).map (·.size) = some (b8s (shaL bs)).toArray.size) := Lib.hid (info_of_arr _ rfl info_id)
  have HIV2 : Hid ((Try.prog.info? 23).map (·.size) = some (b8s (shaL bs)).length) := Lib.hid info_id
  obtain ⟨W9, hW9, HTH, HR9, HB9⟩ := arr_write (w0 := w3) (N := w.heap.size + 1) hi3 (new := shaL bs) rfl (Below.refl _ _) (by omega) (Nat.le_refl _)
  have HW9 := Lib.hid hW9
  have HN3 := Lib.hid hN3
  have HG3 := Lib.hid hg3
  clear hW9 hi3 HBX HD hs3 hN3 hg3
  go_wp2_with (first
    | (with_reducible (refine wpList_load_mid rfl _ _ rfl g 4 rfl (b8s (shaL bs)) _ HR3.out Try.underlying23 rfl HIV2.out ?_))
    | ((with_reducible (refine wpList_store_mid rfl _ _ _ rfl ?_ ?_ ?_ ?_ ?_ ?_ ?_ ?_ ?_)); (exact w.heap.size + 1); (exact 0); (exact (b8s (shaL bs)).toArray); (exact rfl); (exact rfl); (exact HTH.out); (exact HIV.out); (exact all_oneCell_toArray (b8s_one' _)); rw [HW9.out]))
  refine bodyPost_ret (results_row1 rfl _ _ _ _ _ _ _ rfl HR9.out Try.underlying23 rfl HIV.out) rfl ?_
  have hlt3 : g < w.heap.size + 1 := by omega
  refine ⟨rfl, ⟨HN3.out.1, (HB9.out.block g hlt3).trans HN3.out.2⟩, ?_⟩
  have hb := HB.out
  have hg := HG3.out
  have h9 := HB9.out
  have hs := HSZ.out
  refine ⟨h9.os.trans (hg.os.trans hb.os), h9.tape.trans (hg.tape.trans hb.tape), h9.output.trans (hg.output.trans hb.output), by have := h9.size; omega, fun k hk hne => ?_⟩
  exact (h9.block k (by omega)).trans ((hg.block k (by omega) hne).trans (hb.block k hk))

set_option maxRecDepth 100000 in
set_option maxHeartbeats 1000000 in
/-- the name, asked again -/
theorem id_again (g : Nat) (v : Value) (id : List UInt8) (n : Int) (w : World) (hN : NamedAt w g v 1 0 id n) :
    Calls Try.prog 23 #[.pointer (some ⟨g, 0, none⟩)] w fun e w' => e = .returned (.agg (b8s id).toArray) ∧ Below w.heap.size w w' := by
  have hmf : ∀ (fn : Fn) (first cap : Array Value) (w : World), (Instr.makeFunc fn first cap).run Try.prog w = .ok (.func fn first cap) w := fun _ _ _ _ => rfl
  obtain ⟨W2, hW2⟩ : ∃ W2, (w.alloc (.cells #[.pointer (some ⟨g, 0, none⟩)] 45)).alloc (.cells #[Value.int .u8 0, Value.int .u8 0, Value.int .u8 0, Value.int .u8 0, Value.int .u8 0, Value.int .u8 0, Value.int .u8 0, Value.int .u8 0, Value.int .u8 0, Value.int .u8 0, Value.int .u8 0, Value.int .u8 0, Value.int .u8 0, Value.int .u8 0, Value.int .u8 0, Value.int .u8 0, Value.int .u8 0, Value.int .u8 0, Value.int .u8 0, Value.int .u8 0, Value.int .u8 0, Value.int .u8 0, Value.int .u8 0, Value.int .u8 0, Value.int .u8 0, Value.int .u8 0, Value.int .u8 0, Value.int .u8 0, Value.int .u8 0, Value.int .u8 0, Value.int .u8 0, Value.int .u8 0] 23) = W2 := ⟨_, rfl⟩
  have hb : Below w.heap.size w W2 := by rw [← hW2]; exact ((Below.refl _ _).alloc (Nat.le_refl _) _).alloc (by simp) _
  have hsz : W2.heap.size = w.heap.size + 2 := by rw [← hW2]; simp
  have hbx : W2.heap[w.heap.size]? = some (.cells #[.pointer (some ⟨g, 0, none⟩)] 45 (0, 0)) := by rw [← hW2]; exact (Below.heap_alloc _ _ _ (by simp)).trans (heap_alloc_new w _)
  have hid : W2.heap[w.heap.size + 1]? = some (.cells (b8s zeros32).toArray 23 (0, 0)) := by
    rw [← hW2]
    have := heap_alloc_new (w.alloc (.cells #[.pointer (some ⟨g, 0, none⟩)] 45)) (.cells (b8s zeros32).toArray 23 (0, 0))
    rwa [show (w.alloc (.cells #[.pointer (some ⟨g, 0, none⟩)] 45)).heap.size = w.heap.size + 1 by simp] at this
  have hp3 : W2.cell? ⟨w.heap.size, 0, none⟩ = some (.pointer (some ⟨g, 0, none⟩)) := by rw [row_cell hbx]; rfl
  have HB := Lib.hid hb
  have HSZ := Lib.hid hsz
  have hlen := hN.1
  have hN2 := hN.keep hb
  have HC1 := Lib.hid hN2.c1
  have HR3 := Lib.hid hN2.range
  have HIV : Hid ((Try.prog.info? 23).map (·.size) = some (b8s id).toArray.size) := Lib.hid (info_of_arr _ hlen info_id)
  have HIV2 : Hid ((Try.prog.info? 23).map (·.size) = some (b8s id).length) := Lib.hid (by rw [b8s_length, hlen]; exact info_id)
  obtain ⟨W9, hW9, HTH, HR9, HB9⟩ := arr_write (w0 := W2) (N := w.heap.size + 1) hid (new := id) (by rw [hlen]; rfl) (Below.refl _ _) (by omega) (Nat.le_refl _)
  have HW9 := Lib.hid hW9
  clear hN hb hsz hid hbx hN2 hW9 hlen
  go_enter Try.func23, Try.ntmps23
  go_wp2_with fail
  refine (do_done _ _ _ HC1.out).mono ?_
  rintro e w' ⟨rfl, rfl⟩
  go_wp2_with (first
    | (with_reducible (refine wpList_load_mid rfl _ _ rfl g 4 rfl (b8s id) _ HR3.out Try.underlying23 rfl HIV2.out ?_))
    | ((with_reducible (refine wpList_store_mid rfl _ _ _ rfl ?_ ?_ ?_ ?_ ?_ ?_ ?_ ?_ ?_)); (exact w.heap.size + 1); (exact 0); (exact (b8s id).toArray); (exact rfl); (exact rfl); (exact HTH.out); (exact HIV.out); (exact all_oneCell_toArray (b8s_one' _)); rw [HW9.out]))
  refine bodyPost_ret (results_row1 rfl _ _ _ _ _ _ _ rfl HR9.out Try.underlying23 rfl HIV.out) rfl ?_
  exact ⟨rfl, HB.out.trans (HB9.out.mono (by omega))⟩
end Go.Proofs.Ytkiggfahcakdeaa
