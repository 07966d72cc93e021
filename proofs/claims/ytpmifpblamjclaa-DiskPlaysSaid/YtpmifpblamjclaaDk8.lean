
/- Room; Append. -/

import Derived.Test.YtpmifpblamjclaaDk7

namespace Go.Proofs.Ytpmifpblamjclaa

set_option linter.unusedVariables false

set_option linter.unusedSimpArgs false

set_option linter.unusedSectionVars false

open Go.RowKit

/-- the bytes of the names that are left -/
def sumL (m : DM) (left : Lit → Bool) (ns : NM) : Nat := ((ns.filter fun p => left (.string p.1)).map fun p => (fileM m p.2).b.length).sum
theorem sumL_cons (m : DM) (left : Lit → Bool) (p : List UInt8 × Nat) (ns : NM) : sumL m left (p :: ns) = (if left (.string p.1) then (fileM m p.2).b.length else 0) + sumL m left ns := by
  unfold sumL
  rw [List.filter_cons]
  split <;> simp
theorem sumL_all {m : DM} {left : Lit → Bool} {ns : NM} (h : ∀ p ∈ ns, left (.string p.1) = true) : sumL m left ns = lenN m ns := by
  unfold sumL lenN
  rw [List.filter_eq_self.2 h]
theorem sumL_none {m : DM} {left : Lit → Bool} {ns : NM} (h : ∀ kl, left kl = false) : sumL m left ns = 0 := by
  unfold sumL
  rw [List.filter_eq_nil_iff.2 (fun p _ => by rw [h]; decide)]
  rfl
theorem sumL_le (m : DM) (left : Lit → Bool) (ns : NM) : sumL m left ns ≤ lenN m ns := by
  induction ns with
  | nil => exact Nat.le_refl _
  | cons p ns ih =>
    rw [sumL_cons]
    have : lenN m (p :: ns) = (fileM m p.2).b.length + lenN m ns := by simp [lenN]
    split <;> omega
theorem sumL_other {m : DM} {left : Lit → Bool} {ns : NM} {s : List UInt8} (h : ∀ p ∈ ns, p.1 ≠ s) : sumL m (fun z => left z && !z.sameKey (.string s)) ns = sumL m left ns := by
  unfold sumL
  congr 2
  refine List.filter_congr fun p hp => ?_
  have h1 : (Lit.string p.1).sameKey (.string s) = false := by
    show (p.1 == s) = false
    rw [beq_eq_false_iff_ne]
    exact h p hp
  simp [h1]
/-- a name is met -/
theorem sumL_step {m : DM} {left : Lit → Bool} {ns : NM} (hr : risesN ns) {s : List UInt8} {f : Nat} (hf : (s, f) ∈ ns) (hl : left (.string s) = true) : sumL m left ns = (fileM m f).b.length + sumL m (fun z => left z && !z.sameKey (.string s)) ns := by
  induction ns with
  | nil => cases hf
  | cons p ns ih =>
    obtain ⟨h1, h2⟩ := List.pairwise_cons.1 hr
    rw [sumL_cons, sumL_cons]
    rcases List.mem_cons.1 hf with e | e
    · subst e
      have hne : ∀ q ∈ ns, q.1 ≠ s := fun q hq e => by
        have := h1 q hq
        rw [e, WideAt.bytes_irrefl] at this
        cases this
      rw [sumL_other hne, if_pos hl]
      have hs : (Lit.string s).sameKey (.string s) = true := by show (s == s) = true; simp
      simp [hs]
    · rw [ih h2 e]
      have hne : p.1 ≠ s := fun e2 => by
        have := h1 _ e
        rw [e2, WideAt.bytes_irrefl] at this
        cases this
      have hs : (Lit.string p.1).sameKey (.string s) = false := by
        show (p.1 == s) = false
        rw [beq_eq_false_iff_ne]; exact hne
      simp only [hs, Bool.not_false, Bool.and_true]
      omega
theorem fileM_len {m : DM} (h : Bnd m) (f : Nat) : (fileM m f).b.length ≤ 1099511627776 := by
  unfold fileM
  rw [List.getD_eq_getElem?_getD]
  cases hf : m.files[f]? with
  | none => simp
  | some x => exact (h.len x (List.mem_of_getElem? hf)).1
theorem lenN_le {m : DM} (h : Bnd m) (ns : NM) : lenN m ns ≤ ns.length * 1099511627776 := by
  induction ns with
  | nil => simp [lenN]
  | cons p ns ih =>
    have h1 := fileM_len h p.2
    have : lenN m (p :: ns) = (fileM m p.2).b.length + lenN m ns := by simp [lenN]
    rw [this, List.length_cons, Nat.succ_mul]
    omega
def ptrN (o : Option Nat) : Value := .pointer (o.map fun g => ⟨g, 0, none⟩)
theorem ptrN_inv {v : Value} {y : DataW Unit × List MemPlace} (h : ptrR v = some y) : ∃ c, v = ptrN c := by
  unfold ptrR at h
  split at h
  · exact ⟨none, rfl⟩
  · rename_i g
    exact ⟨some g, rfl⟩
  · cases h
theorem has_names (bs : List Nat) (ns : NM) : ∀ p ∈ ns, Maps.has (namesD bs ns) (.string p.1) = true := fun p hp => by
  show (ns.map (entD bs)).any _ = true
  rw [List.any_eq_true]
  refine ⟨entD bs p, List.mem_map.2 ⟨p, hp, rfl⟩, ?_⟩
  show (p.1 == p.1) = true
  simp

theorem str_key {S : ByteArray} {kl : Lit} (h : keyOf Try.prog 9 (.string S) = some kl) : kl = .string S.data.toList := by
  rw [keyOf_string Try.underlying9] at h
  simp [mapKey, Try.underlying9] at h
  exact h.2.symm
theorem met {bs : List Nat} {ns : NM} {s : List UInt8} {ya : DataW Unit} {yb : List MemPlace} {c : Option Nat} (hat : ∀ zd, (namesD bs ns).atKey (.string s) zd = ya) (hR : ptrR (ptrN c) = some (ya, yb)) : ∃ f, findN ns s = some f ∧ c = some (bs.getD f 0) := by
  cases hf : findN ns s with
  | none =>
    have h1 := hat .nil
    have h2 := hat (.lit (.bool true))
    rw [namesD_at, hf] at h1 h2
    have : (DataW.nil : DataW Unit) = .lit (.bool true) := h1.trans h2.symm
    cases this
  | some f =>
    have h1 := hat .nil
    rw [namesD_at, hf] at h1
    have h2 : ptrR (ptrN c) = some (fileD bs f, yb) := by rw [hR, ← h1]; rfl
    have h3 := ptrR_inv h2
    cases c with
    | none => cases h3
    | some x =>
      have : x = bs.getD f 0 := by simpa [ptrN] using h3
      exact ⟨f, rfl, by rw [this]⟩

set_option maxRecDepth 100000 in
set_option maxHeartbeats 8000000 in
theorem room_any (N g : Nat) (m : DM) (d : DA) (w : World) (h : DiskIn N w g m d) (hB : Bnd m) (hI : IdsOk m) :
    Calls Try.prog 20 #[.pointer (some ⟨g, 0, none⟩)] w fun e w' => e = .returned (.int .i64 (roomM m : Int)) ∧ Below w.heap.size w w' := by
  have H := Lib.hid h
  obtain ⟨c0, c1, c2, c3, c4, c5⟩ := h.cells
  have hown := h.now
  have HMB := Lib.hid h.now.lt
  have hmost := hB.most
  have HLN : Hid (lenN m m.now ≤ 1099511627776000000) := Lib.hid (by
    have h1 := lenN_le hB m.now
    have h2 := hB.now
    omega)
  have HBD := Lib.hid hB
  have HID := Lib.hid hI
  obtain ⟨T, hT⟩ : ∃ T, lenN m m.now = T := ⟨_, rfl⟩
  have hTl : T ≤ 1099511627776000000 := by rw [← hT]; exact HLN.out
  have HT := Lib.hid hT
  obtain ⟨mo, hmo⟩ : ∃ mo, m.most = mo := ⟨_, rfl⟩
  have HR : Hid (roomM m = mo - T) := Lib.hid (by unfold roomM; rw [hT, hmo])
  rw [hmo] at hmost c3
  clear c1 c2 c4 c5 h hT hmo
  go_enter Try.func20, Try.ntmps20
  go_wp2_with (first
    | (at_range; refine wpList_range_own _ rfl _ 66 rfl 9 72 keyed_str Try.underlying66 ptrR d.mb m.now.length _ rfl hown ?_; intro w4 hrg4 hg4 hs4))
  go_frame
  have HR4 := Lib.hid hrg4
  have HB4 : Hid (Below w.heap.size w w4) := Lib.hid (grown_none hg4)
  obtain ⟨r, hr⟩ : ∃ r, w.heap.size = r := ⟨_, rfl⟩
  rw [hr] at HR4 hrg4 ⊢
  have HRR := Lib.hid hr
  clear hrg4 hg4 hs4 hr
  go_loopw [3] (fun nv wc => ∃ (left : Lit → Bool) (cnt : Nat) (x : Int), nv = .int .i64 x ∧ Hid (wc.ranges Try.prog 9 ptrR d.mb r m.now.length (namesD d.bs m.now) left cnt) ∧ Hid (x = (mo : Int) - T + sumL m left m.now) ∧ Hid (Below w.heap.size w wc)) (fun _ wc => wc.rangeLeft d.mb r)
  case atStart => exact ⟨_, _, (mo : Int), rfl, HR4, Lib.hid (by rw [sumL_all (has_names d.bs m.now), HT.out]; omega), HB4⟩
  case round =>
  clear HR4 HB4
  obtain ⟨left, cnt, x, rfl, HRG, HX, HBC⟩ := hrel
  have hrg := HRG.out
  go_wp2_with (first
    | (at_next; refine wpList_next_ranges _ rfl _ rfl 9 keyed_str ptrR Value.string ptrN (fun key kl hk => Maps.keyOf_string_inv Try.underlying9 hk) (fun v y hv => ptrN_inv hv) d.mb r m.now.length _ _ _ rfl hrg ?_ ?_))
  · intro hc0 hl0
    have hx : x = (mo : Int) - T := by rw [HX.out, sumL_none hl0]; omega
    have hmx := fun (w : World) => run_max2c (P := Try.prog) w #[3, 3] 3 .i64 .i64 x 0
    go_wp2_with fail
    go_ret
    refine ⟨?_, HBC.out⟩
    have e : ((roomM m : Nat) : Int) = max ((mo : Int) - T) 0 := by rw [HR.out]; omega
    rw [e]
    rfl
  · intro S c kl ya yb w5 cnt5 hkey hleft hRv hat hrg5 hlt5 hgr5 hsz5 hen5
    have hk := str_key hkey
    subst hk
    obtain ⟨f, hfn, hc⟩ := met hat hRv
    subst hc
    have hmem := find_mem hfn
    have hfl : f < m.files.length := HID.out.now _ hmem
    have hxf : m.files[f]? = some (fileM m f) := by unfold fileM; simp [List.getD, hfl]
    have hst := sumL_step (m := m) HBD.out.rn hmem hleft
    have hle := sumL_le m left m.now
    have D5 : DiskIn N w5 g m d := (H.out.below HBC.out).keep (fun b hb => hgr5.block b (by have h1 := H.out.foot_lt hb; have h2 := HBC.out.size; omega) (by have h1 := H.out.foot_lt hb; have h2 := HRR.out; intro e; cases e; omega))
    obtain ⟨b, v, q1, q2, q3, q4, q5⟩ := D5.row_of hxf
    obtain ⟨Av, cv, rfl, _⟩ := own_slice q5
    obtain ⟨fl, hfl'⟩ : ∃ fl, (fileM m f).b.length = fl := ⟨_, rfl⟩
    rw [q3] at hen5
    replace hen5 : (Instr.entry (.pointer (some ⟨r, 0, none⟩))).run Try.prog w5 = .ok (.tuple #[.string S, .pointer (some ⟨b, 0, none⟩)]) w5 := hen5
    have k0 : w5.cell? ⟨b, 0, none⟩ = some (.slice Av fl cv) := by rw [← hfl']; exact row_cell q4 0
    have hxb : -1099511627776000000 ≤ x ∧ x ≤ 9223372036854775807 ∧ fl ≤ 1099511627776 := by
      have h1 := HX.out
      have h2 := HT.out
      have h3 := fileM_len HBD.out f
      omega
    have hw1 : IntKind.i64.wrap (x - (fl : Int)) = x - (fl : Int) := by rw [IntKind.wrap_i64]; omega
    have HX2 : Hid (x - (fl : Int) = (mo : Int) - T + sumL m (fun z => left z && !z.sameKey (.string S.data.toList)) m.now) := Lib.hid (by have h1 := HX.out; omega)
    have HRG5 := Lib.hid hrg5
    have HB5 : Hid (Below w.heap.size w w5) := Lib.hid (by
      have h1 := HBC.out
      have h2 := HRR.out
      exact ⟨hgr5.os.trans h1.os, hgr5.tape.trans h1.tape, hgr5.output.trans h1.output, Nat.le_trans h1.size hgr5.size, fun i hi => (hgr5.block i (by have := h1.size; omega) (by intro e; cases e; omega)).trans (h1.block i hi)⟩)
    have HLE5 := Lib.hid hlt5
    rw [q3]
    clear hkey hleft hRv hat hgr5 hsz5 hfn hmem hfl hxf hst hle D5 q1 q2 q3 q4 q5 hfl' hrg5 hlt5
    go_wp2_with fail
    go_roundw
    case rel => exact ⟨_, cnt5, x - (fl : Int), by first | rfl | exact congrArg (Value.int .i64) (by omega), HRG5, HX2, HB5⟩
    case measure => rw [HRG5.out.left_eq, hrg.left_eq]; exact HLE5.out

set_option maxRecDepth 100000 in
set_option maxHeartbeats 4000000 in
theorem append_any (N g : Nat) (m : DM) (d : DA) (S : ByteArray) (hS : S.size ≤ maxLen) (A : Option Addr) (bs : List UInt8) (c : Nat) (w : World) (h : DiskIn N w g m d) (hB : Bnd m) (hI : IdsOk m) (hr : Rd w A (b8s bs)) (hA : bs ≠ [] → ∀ a, A = some a → ¬ foot g d a.block) (hl : bs.length ≤ 1099511627776) :
    Calls Try.prog 15 #[.pointer (some ⟨g, 0, none⟩), .string S, .slice A bs.length c] w fun e w' => e = .returned (.int .i64 (appendM m S.data.toList bs).2) ∧ ∃ d', Aft N g w w' (appendM m S.data.toList bs).1 d d' := by
  have H := Lib.hid h
  have HFI := Lib.hid (find_any N g m d S hS w h)
  have HRO := Lib.hid (room_any N g m d w h hB hI)
  have HRD := Lib.hid hr
  have HNF := Lib.hid hA
  have HBD := Lib.hid hB
  obtain ⟨n, hn⟩ : ∃ n, bs.length = n := ⟨_, rfl⟩
  have HN := Lib.hid hn
  rw [hn] at hl ⊢
  clear h hr hA hn
  rcases find_cases m S.data.toList with ⟨f, hf, hdn, hfn⟩ | ⟨e, hf, he⟩
  · have hfl : f < m.files.length := hI.now _ (find_mem hfn)
    have e0 : appendM m S.data.toList bs = if roomM m < bs.length then (m, 51) else if (stepM m).2 = 0 then (setF (stepM m).1 f ⟨(fileM m f).b ++ bs, (fileM m f).safe⟩, 0) else stepM m := by unfold appendM; rw [hf]
    rw [HN.out] at e0
    rw [hf] at HFI
    obtain ⟨b, hb⟩ : ∃ b, d.bs.getD f 0 = b := ⟨_, rfl⟩
    have e2 : ptrO d.bs (some f) = .pointer (some ⟨b, 0, none⟩) := by rw [← hb]; rfl
    rw [e2] at HFI
    obtain ⟨rm, hrm⟩ : ∃ rm, roomM m = rm := ⟨_, rfl⟩
    rw [hrm] at e0 HRO
    by_cases hroom : rm < n
    · rw [if_pos hroom] at e0
      rw [e0]
      have i1 : (rm : Int) < (n : Int) := by omega
      clear e0 hf hdn hfn hb e2 hrm hroom hfl
      go_enter Try.func15, Try.ntmps15
      go_wp2_with fail
      refine HFI.out.mono ?_
      rintro e w1 ⟨rfl, rfl⟩
      go_wp2_with fail
      refine HRO.out.mono ?_
      rintro e w2 ⟨rfl, hb2⟩
      have B2 := Lib.hid hb2
      clear hb2
      go_wp2_with fail
      go_ret
      exact ⟨rfl, d, Aft.below H.out B2.out⟩
    rw [if_neg hroom] at e0
    have i1 : ¬ ((rm : Int) < (n : Int)) := by omega
    rcases step_cases m with hs | hs
    · rw [if_pos hs] at e0
      rw [e0]
      have hmf := (step_same m).2.2.2.1
      obtain ⟨x, hx⟩ : ∃ x, fileM m f = x := ⟨_, rfl⟩
      have hxf : m.files[f]? = some x := by
        rw [← hx]; unfold fileM; simp [List.getD, hfl]
      have hxl := (hB.len x (List.mem_of_getElem? hxf)).1
      rw [hx]
      have HST : Hid (∀ w', DiskIn N w' g m d → Calls Try.prog 33 #[.pointer (some ⟨g, 0, none⟩)] w' fun e w'' => e = .returned (.int .i64 0) ∧ Aft N g w' w'' (stepM m).1 d d) := Lib.hid (fun w' hd' => by
        have := step_any N g m d hB.fuse w' hd'
        rwa [hs] at this)
      obtain ⟨m1, hm1⟩ : ∃ m1, (stepM m).1 = m1 := ⟨_, rfl⟩
      rw [hm1] at HST
      rw [hm1] at hmf ⊢
      rw [← hmf] at hxf
      have HXF := Lib.hid hxf
      have HBF := Lib.hid hb
      clear e0 hf hdn hfn hb e2 hs hm1 hmf hxf hx hfl hrm hroom
      go_enter Try.func15, Try.ntmps15
      go_wp2_with fail
      refine HFI.out.mono ?_
      rintro e w1 ⟨rfl, rfl⟩
      go_wp2_with fail
      refine HRO.out.mono ?_
      rintro e w2 ⟨rfl, hb2⟩
      have A2 := Lib.hid (Aft.below H.out hb2)
      clear hb2
      go_wp2_with fail
      refine (HST.out w2 A2.out.disk).mono ?_
      rintro e w3 ⟨rfl, ha3⟩
      have A3 := Lib.hid (A2.out.trans ha3)
      obtain ⟨b', v, q1, q2, q3, q4, q5⟩ := ha3.disk.row_of HXF.out
      have hbb : b' = b := by rw [← q3, HBF.out]
      subst hbb
      obtain ⟨Av, cv, rfl, _⟩ := own_slice q5
      obtain ⟨xn, hxn⟩ : ∃ xn, x.b.length = xn := ⟨_, rfl⟩
      have HXN := Lib.hid hxn
      rw [hxn] at q4 q5 hxl
      have k0 : w3.cell? ⟨b', 0, none⟩ = some (.slice Av xn cv) := row_cell q4 0
      have HR3 : Hid (Rd w3 A (b8s bs)) := Lib.hid (by
        by_cases hne : bs = []
        · rw [hne]; exact Rd.nil
        · exact HRD.out.keep (fun ad e hlt => A3.out.frm.block _ hlt (HNF.out hne ad e)))
      have Q1 := Lib.hid q1
      have Q2 := Lib.hid q2
      have Q4 := Lib.hid q4
      have Q5 := Lib.hid q5
      have HD3 := Lib.hid ha3.disk
      have HTV : Hid (∀ c, some c = (Value.slice Av xn cv).ownBlock → tyAt w3 c 5) := Lib.hid (fun c e => ha3.disk.ty_v (List.mem_of_getElem? q2) (by rw [e]; cases Av <;> rfl))
      have HAP : Hid (∀ w', w3.grownBy w' (Value.slice Av xn cv).ownBlock → w'.heap[b']? = some (.cells #[.slice Av xn cv, .int .i64 (x.safe : Int)] 75 (0, 0))) := Lib.hid (fun w' hg => (hg.block b' (Array.getElem?_eq_some_iff.1 q4).1 (fun e => tyAt_ne (HTV.out b' e) (ha3.disk.ty_b (List.mem_of_getElem? q1)) (by decide) rfl)).trans q4)
      have HL3 : Hid ((b8s bs).length = n * 1) := Lib.hid (by rw [b8s_length, HN.out, Nat.mul_one])
      clear q1 q2 q3 q4 q5 ha3 hxn
      go_wp2_with (at_builtin; refine wpList_append_rd _ rfl _ _ 27 rfl N 5 _ 1 1 Try.underlying27 info_u8 rfl (by decide) (.slice Av xn cv) xn _ rfl Q5.out A n c (b8s bs) rfl HL3.out HR3.out (b8s_one' _) (by unfold maxLen; omega) (by omega) HD3.out.size ?_; intro v7 w7 ho7 hg7 hvb7; have r7 := HAP.out w7 hg7; have k7 : w7.cell? ⟨b', 0, none⟩ = some (.slice Av xn cv) := row_cell r7 0; have f7 := row_froz (j := 0) r7; obtain ⟨A7, c7, e7, _⟩ := own_slice ho7; subst e7; have R7 := Lib.hid r7; have HO7 := Lib.hid ho7; have HG7 := Lib.hid hg7; have HV7 := Lib.hid hvb7; clear r7 ho7 hg7 hvb7)
      go_ret
      have hty : tyAt w7 b' 75 := ⟨_, _, R7.out⟩
      have hown : (w7.setCell ⟨b', 0, none⟩ (.slice A7 (xn + n) c7)).ownsRow N 5 1 (.slice A7 (xn + n) c7) (x.b ++ bs).length (b8s (x.b ++ bs)) := by
        rw [List.length_append, HXN.out, HN.out, b8s_append]
        exact own_keep HO7.out (fun c hc _ => Below.heap_setCell _ _ _ _ (tyAt_ne (own_ty HO7.out hc) hty (by decide)))
      have hob : ∀ a b c d : Nat, ∀ A : Option Addr, (Value.slice A a b).ownBlock = (Value.slice A c d).ownBlock := fun a b c d A => by cases A <;> rfl
      have hF : Frm (foot g d) w3 (w7.setCell ⟨b', 0, none⟩ (.slice A7 (xn + n) c7)) := (Frm.of_grown (F := foot g d) HG7.out (fun k hk => .inl (.inr (.inr (.inr (.inr (.inr ⟨_, List.mem_of_getElem? Q2.out, by rw [← hk]; exact hob _ _ _ _ _⟩))))))).trans (Frm.of_cell (F := foot g d) (.inr (.inr (.inr (.inr (.inl (List.mem_of_getElem? Q1.out))))))) (fun i hi => .inl hi)
      have hvb : (Value.slice A7 (xn + n) c7).ownBlock = (Value.slice Av x.b.length cv).ownBlock ∨ (Value.slice A7 (xn + n) c7).ownBlock = none ∨ ∃ c, (Value.slice A7 (xn + n) c7).ownBlock = some c ∧ w3.heap.size ≤ c := by
        rcases HV7.out with e | e
        · exact .inl (by rw [e]; exact hob _ _ _ _ _)
        · exact .inr (.inr ⟨_, e, Nat.le_refl _⟩)
      have hD := HD3.out.fileSet Q1.out Q2.out HXF.out ⟨x.b ++ bs, x.safe⟩ (.slice A7 (xn + n) c7) (set_row (j := 0) _ R7.out) hown (fun c hc hcb hcv => (Below.heap_setCell _ _ _ _ hcb).trans (HG7.out.block c (HD3.out.foot_lt hc) (by rw [hob xn cv x.b.length cv]; exact hcv))) hvb
      refine ⟨rfl, _, A3.out.trans (Aft.mk hD hF (fun c hc => ?_))⟩
      rcases foot_set c hc with h1 | h1
      · exact .inl h1
      · rcases hvb with e | e | ⟨k, e, hk⟩
        · exact .inl (.inr (.inr (.inr (.inr (.inr ⟨_, List.mem_of_getElem? Q2.out, h1.trans e⟩)))))
        · rw [e] at h1; cases h1
        · right
          rw [e] at h1
          cases h1
          exact hk
    · rw [if_neg (by rw [hs]; decide)] at e0
      rw [e0]
      have HST : Hid (∀ w', DiskIn N w' g m d → Calls Try.prog 33 #[.pointer (some ⟨g, 0, none⟩)] w' fun e w'' => e = .returned (.int .i64 50) ∧ Aft N g w' w'' (stepM m).1 d d) := Lib.hid (fun w' hd' => by
        have := step_any N g m d hB.fuse w' hd'
        rwa [hs] at this)
      rw [hs]
      obtain ⟨m1, hm1⟩ : ∃ m1, (stepM m).1 = m1 := ⟨_, rfl⟩
      rw [hm1] at HST ⊢
      clear e0 hf hdn hfn hb e2 hs hm1 hfl hrm hroom
      go_enter Try.func15, Try.ntmps15
      go_wp2_with fail
      refine HFI.out.mono ?_
      rintro e w1 ⟨rfl, rfl⟩
      go_wp2_with fail
      refine HRO.out.mono ?_
      rintro e w2 ⟨rfl, hb2⟩
      have A2 := Lib.hid (Aft.below H.out hb2)
      clear hb2
      go_wp2_with fail
      refine (HST.out w2 A2.out.disk).mono ?_
      rintro e w3 ⟨rfl, ha3⟩
      have A3 := Lib.hid (A2.out.trans ha3)
      clear ha3
      go_wp2_with fail
      go_ret
      exact ⟨rfl, d, A3.out⟩
  · have e0 : appendM m S.data.toList bs = (m, e) := by unfold appendM; rw [hf]
    rw [e0]
    rw [hf] at HFI
    have e2 : ptrO d.bs none = .pointer none := rfl
    rw [e2] at HFI
    clear e0 hf e2
    rcases he with rfl | rfl
    all_goals (
      go_enter Try.func15, Try.ntmps15
      go_wp2_with fail
      refine HFI.out.mono ?_
      rintro e w1 ⟨rfl, rfl⟩
      go_wp2_with fail
      go_ret
      exact ⟨rfl, d, Aft.refl H.out⟩)
end Go.Proofs.Ytpmifpblamjclaa
