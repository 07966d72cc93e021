
/- The document's disk in memory; Room. -/

import Derived.Test.YtpmifpblamjclaaDp1

namespace Go.Proofs.Ytpmifpblamjclaa

set_option linter.unusedVariables false

set_option linter.unusedSimpArgs false

set_option linter.unusedSectionVars false

open Go.RowKit

/-- cells that lie where no block of F is -/
def RdF (F : Nat → Prop) (w : World) (A : Option Addr) (cs : List Value) : Prop := Rd w A cs ∧ (cs ≠ [] → ∀ a, A = some a → ¬ F a.block)
theorem RdF.nil {F : Nat → Prop} {w : World} {A : Option Addr} : RdF F w A [] := ⟨Rd.nil, fun h => absurd rfl h⟩
theorem RdF.below {F : Nat → Prop} {w w' : World} {A : Option Addr} {cs : List Value} (h : RdF F w A cs) (hb : Below w.heap.size w w') : RdF F w' A cs := ⟨h.1.below hb, h.2⟩
/-- made anew -/
theorem RdF.fresh {F : Nat → Prop} {w w' : World} {A : Option Addr} {cs : List Value} (h : Rd w' A cs) (hf : ∀ a, A = some a → w.heap.size ≤ a.block) (hF : ∀ b, F b → b < w.heap.size) : RdF F w' A cs :=
  ⟨h, fun _ a ha hb => by have h1 := hf a ha; have h2 := hF _ hb; omega⟩
theorem RdF.take {F : Nat → Prop} {w : World} {A : Option Addr} {cs : List Value} (h : RdF F w A cs) (k : Nat) : RdF F w A (cs.take k) := ⟨h.1.take k, fun hn => h.2 (fun e => hn (by rw [e, List.take_nil]))⟩
theorem RdF.aft {N g : Nat} {w w' : World} {m : DM} {d d' : DA} {A : Option Addr} {cs : List Value} (h : RdF (foot g d) w A cs) (ha : Aft N g w w' m d d') : RdF (foot g d') w' A cs := by
  by_cases hc : cs = []
  · rw [hc]
    exact RdF.nil
  · have hp : 0 < cs.length := List.length_pos_iff.2 hc
    obtain ⟨b, o, hA, _⟩ := h.1.all hp
    have hn := h.2 hc _ hA
    have hr := h.1
    rw [hA] at hr
    have hl := hr.lt hp
    refine ⟨h.1.keep (fun ad e _ => ?_), fun _ a e hf => ?_⟩
    · rw [hA] at e
      cases e
      exact ha.frm.block b hl hn
    · rw [hA] at e
      cases e
      rcases ha.ext _ hf with h1 | h1
      · exact hn h1
      · dsimp only at h1
        omega

def fileC (p : PV × Nat) : List Value := [p.1.v, .int .i64 (p.2 : Int)]
def filesC (fs : List (PV × Nat)) : List Value := fs.flatMap fileC
theorem filesC_len (fs : List (PV × Nat)) : (filesC fs).length = fs.length * 2 := flat_length fs (fun _ _ => rfl)
theorem filesC_app (a b : List (PV × Nat)) : filesC (a ++ b) = filesC a ++ filesC b := by simp [filesC]
def filM (p : PV × Nat) : FM := ⟨p.1.bs, p.2⟩
def turnR (t : TM) : List Value := [strV t.fr, strV t.to_, .int .i64 (t.f : Int)]
def turnsR (ts : List TM) : List Value := ts.flatMap turnR
theorem turnsR_len (ts : List TM) : (turnsR ts).length = ts.length * 3 := flat_length ts (fun _ _ => rfl)
theorem turnsR_app (a b : List TM) : turnsR (a ++ b) = turnsR a ++ turnsR b := by simp [turnsR]
/-- where the document's disk lies -/
structure RA where
  fs : List (PV × Nat)
  fa : Option Addr
  fc : Nat
  na : Option Addr
  nc : Nat
  sa : Option Addr
  sc : Nat
  ta : Option Addr
  tc : Nat
def RA.row (R : RA) (m : DM) : Array Value := #[.slice R.fa m.files.length R.fc, .slice R.na m.now.length R.nc, .slice R.sa m.sure.length R.sc, .slice R.ta m.turns.length R.tc, .int .i64 (m.most : Int), .int .i64 (m.fuse : Int), .bool m.down]
def RA.val (R : RA) (m : DM) : Value := .agg (R.row m)
structure RIn (F : Nat → Prop) (w : World) (R : RA) (m : DM) : Prop where
  fm : m.files = R.fs.map filM
  rf : RdF F w R.fa (filesC R.fs)
  rb : ∀ p ∈ R.fs, RdF F w p.1.A (b8s p.1.bs) ∧ p.1.bs.length ≤ p.1.c ∧ p.1.c ≤ 9223372036854775807
  rn : RdF F w R.na (namesR m.now)
  rs : RdF F w R.sa (namesR m.sure)
  rt : RdF F w R.ta (turnsR m.turns)
section

variable {F : Nat → Prop} {w w' : World} {R : RA} {m : DM}

theorem RIn.below (h : RIn F w R m) (hb : Below w.heap.size w w') : RIn F w' R m :=
  ⟨h.fm, h.rf.below hb, fun p hp => ⟨(h.rb p hp).1.below hb, (h.rb p hp).2⟩, h.rn.below hb, h.rs.below hb, h.rt.below hb⟩
theorem RIn.aft {N g : Nat} {m1 : DM} {d d' : DA} (h : RIn (foot g d) w R m) (ha : Aft N g w w' m1 d d') : RIn (foot g d') w' R m :=
  ⟨h.fm, h.rf.aft ha, fun p hp => ⟨(h.rb p hp).1.aft ha, (h.rb p hp).2⟩, h.rn.aft ha, h.rs.aft ha, h.rt.aft ha⟩
theorem RIn.fl (h : RIn F w R m) : R.fs.length = m.files.length := by rw [h.fm, List.length_map]
theorem RIn.file (h : RIn F w R m) {i : Nat} (hi : i < m.files.length) : ∃ p, R.fs[i]? = some p ∧ p ∈ R.fs ∧ fileM m i = filM p ∧ m.files[i]? = some (filM p) := by
  have hi' : i < R.fs.length := by rw [h.fl]; exact hi
  have e : m.files[i]? = some (filM R.fs[i]) := by rw [h.fm, List.getElem?_map, List.getElem?_eq_getElem hi']; rfl
  refine ⟨R.fs[i], List.getElem?_eq_getElem hi', List.getElem_mem hi', ?_, e⟩
  unfold fileM
  rw [List.getD, e]
  rfl
/-- a file's cells -/
theorem RIn.fcell (h : RIn F w R m) {i : Nat} {p : PV × Nat} (hp : R.fs[i]? = some p) : ∃ b o, R.fa = some ⟨b, o, none⟩ ∧ w.rangeAt b (o + i * 2) (fileC p) := by
  obtain ⟨hi, he⟩ := List.getElem?_eq_some_iff.1 hp
  obtain ⟨b, o, hA, _⟩ := h.rf.1.all (by rw [filesC_len]; omega)
  refine ⟨b, o, hA, ?_⟩
  have hr := h.rf.1
  rw [hA] at hr
  have := rd_flat (f := fileC) (m := 2) hr (fun _ _ => rfl) i hi
  rw [he] at this
  exact this
end

theorem nm_cell {w : World} {A : Option Addr} {ns : NM} (h : Rd w A (namesR ns)) {i : Nat} {p : List UInt8 × Nat} (hp : ns[i]? = some p) : ∃ b o, A = some ⟨b, o, none⟩ ∧ w.rangeAt b (o + i * 2) (nmC p) := by
  obtain ⟨hi, he⟩ := List.getElem?_eq_some_iff.1 hp
  obtain ⟨b, o, hA, _⟩ := h.all (by rw [namesR_len]; omega)
  refine ⟨b, o, hA, ?_⟩
  rw [hA] at h
  have := rd_flat (f := nmC) (m := 2) h (fun _ _ => rfl) i hi
  rw [he] at this
  exact this
theorem lenN_succ (m : DM) (ns : NM) {k : Nat} {p : List UInt8 × Nat} (hp : ns[k]? = some p) : lenN m (ns.take (k + 1)) = lenN m (ns.take k) + (fileM m p.2).b.length := by
  unfold lenN
  rw [List.take_add_one, hp]
  simp
theorem lenN_leF {K L : Nat} {m : DM} (h : Fit K L m) (ns : NM) : lenN m ns ≤ ns.length * L := by
  unfold lenN
  induction ns with
  | nil => simp
  | cons p r ih =>
    have := (h.fileM p.2).1
    rw [List.map_cons, List.sum_cons, List.length_cons, Nat.succ_mul]
    omega

set_option maxRecDepth 100000 in
set_option maxHeartbeats 4000000 in
theorem rroom_any {K L : Nat} {F : Nat → Prop} (R : RA) (m : DM) (w : World) (h : RIn F w R m) (hf : Fit K L m) (hK : K ≤ 1000) (hL : L ≤ 1000000) :
    Calls Try.prog 46 #[R.val m] w fun e w' => e = .returned (.int .i64 (roomM m)) ∧ Below w.heap.size w w' := by
  have H := Lib.hid h
  have HF := Lib.hid hf
  obtain ⟨n, hn⟩ : ∃ n, m.now.length = n := ⟨_, rfl⟩
  obtain ⟨nf, hnf⟩ : ∃ n, m.files.length = n := ⟨_, rfl⟩
  have hnk : n ≤ 1000 := by have := hf.now; omega
  have hnfk : nf ≤ 1000 := by have := hf.files; omega
  have hmm := hf.most
  have HL : Hid (∀ k, lenN m (m.now.take k) ≤ 1000000000) := Lib.hid (fun k => by
    have h1 := lenN_leF hf (m.now.take k)
    have h2 : (m.now.take k).length ≤ 1000 := by rw [List.length_take]; omega
    have h3 := Nat.mul_le_mul h2 hL
    omega)
  unfold RA.val RA.row
  rw [hn, hnf]
  obtain ⟨ns, hns⟩ : ∃ n, m.sure.length = n := ⟨_, rfl⟩
  obtain ⟨nt, hnt⟩ : ∃ n, m.turns.length = n := ⟨_, rfl⟩
  rw [hns, hnt]
  obtain ⟨mo, hmo⟩ : ∃ n, m.most = n := ⟨_, rfl⟩
  obtain ⟨fu, hfu⟩ : ∃ n, m.fuse = n := ⟨_, rfl⟩
  obtain ⟨dn, hdn⟩ : ∃ n, m.down = n := ⟨_, rfl⟩
  rw [hmo] at hmm
  rw [hmo, hfu, hdn]
  have HMO := Lib.hid hmo
  have HN := Lib.hid hn
  have HNF := Lib.hid hnf
  obtain ⟨q, hq⟩ : ∃ q, roomM m = q := ⟨_, rfl⟩
  have HQ := Lib.hid hq
  rw [hq]
  obtain ⟨fa, hfa⟩ : ∃ n, R.fa = n := ⟨_, rfl⟩
  obtain ⟨na, hna⟩ : ∃ n, R.na = n := ⟨_, rfl⟩
  have HFA := Lib.hid hfa
  have HNA := Lib.hid hna
  rw [hfa, hna]
  obtain ⟨W1, hW1⟩ : ∃ W, w.alloc (.cells #[.slice fa nf R.fc, .slice na n R.nc, .slice R.sa ns R.sc, .slice R.ta nt R.tc, .int .i64 (mo : Int), .int .i64 (fu : Int), .bool dn] 50) = W := ⟨_, rfl⟩
  obtain ⟨r1, b1, s1⟩ := new_row hW1
  have c0 : W1.cell? ⟨w.heap.size, 0, none⟩ = some (.slice fa nf R.fc) := row_cell r1 0
  have c1 : W1.cell? ⟨w.heap.size, 1, none⟩ = some (.slice na n R.nc) := row_cell r1 1
  have c4 : W1.cell? ⟨w.heap.size, 4, none⟩ = some (.int .i64 (mo : Int)) := row_cell r1 4
  have HB1 := Lib.hid b1
  clear h hf hn hnf hns hnt hmo hfu hdn hq hfa hna r1 b1 s1
  have HC : Hid (∀ W, Below W1.heap.size W1 W → W.cell? ⟨w.heap.size, 0, none⟩ = some (.slice fa nf R.fc) ∧ W.cell? ⟨w.heap.size, 1, none⟩ = some (.slice na n R.nc)) := Lib.hid (fun W hb => by
    have hlt := World.block_lt_of_cell? W1 _ c0
    exact ⟨cell_below c0 hlt hb, cell_below c1 hlt hb⟩)
  clear c0 c1
  go_enter Try.func46, Try.ntmps46
  go_wp2_with fail
  obtain ⟨g, hg⟩ : ∃ g, w.heap.size = g := ⟨_, rfl⟩
  rw [hg] at HC ⊢
  clear hW1 c4
  go_loopg [3, 4] (n * 1) (fun gk_ sv iv wr => ∃ (k : Nat) (z : Int), k ≤ n ∧ gk_ = n - k ∧ sv = .int .i64 z ∧ -2000000000 ≤ z ∧ z ≤ (mo : Int) ∧ iv = .int .i64 (k : Int) ∧ Hid (z = (mo : Int) - (lenN m (m.now.take k) : Int)) ∧ Hid (Below W1.heap.size W1 wr))
  case atStart => exact ⟨0, _, by omega, by omega, rfl, by omega, by omega, rfl, Lib.hid (by simp [lenN]), Lib.hid (Below.refl _ _)⟩
  case round =>
  obtain ⟨k, z, hk, rfl, rfl, hz1, hz2, rfl, HZ, HB⟩ := hrel
  obtain ⟨c0, c1⟩ := HC.out _ HB.out
  by_cases hlt : k < n
  · have i1 : (k : Int) < (n : Int) := by omega
    have hkl : k < m.now.length := by rw [HN.out]; exact hlt
    obtain ⟨⟨s, f⟩, hp⟩ : ∃ p, m.now[k]? = some p := ⟨_, List.getElem?_eq_getElem hkl⟩
    obtain ⟨b, o, hA, hrow⟩ := nm_cell ((H.out.below HB1.out).below HB.out).rn.1 hp
    have hfl : f < m.files.length := HF.out.ids.now _ (List.mem_of_getElem? hp)
    obtain ⟨p, hfp, hmem, hfm, _⟩ := H.out.file hfl
    obtain ⟨b', o', hA', hrow'⟩ := ((H.out.below HB1.out).below HB.out).fcell hfp
    have a1 : wr.cell? ⟨b, o + k * 2 + 1, none⟩ = some (.int .i64 (f : Int)) := hrow 1 _ rfl
    have a2 : wr.cell? ⟨b', o' + f * 2, none⟩ = some (.slice p.1.A p.1.bs.length p.1.c) := hrow' 0 _ rfl
    rw [HNF.out] at hfl
    have j1 : (f : Int) < (nf : Int) := by omega
    have hle := (HF.out.fileM f).1
    have hsucc := lenN_succ m m.now hp
    rw [hfm] at hle
    have hsm := HL.out (k + 1)
    rw [hsucc] at hsm
    dsimp only at hsm
    rw [hfm] at hsm
    obtain ⟨l, hl⟩ : ∃ l, p.1.bs.length = l := ⟨_, rfl⟩
    have hl1 : l ≤ 1000000 := by have : (filM p).b.length = l := hl; omega
    rw [hl] at a2
    have hz3 : -2000000000 ≤ z - (l : Int) := by have h1 : (filM p).b.length = l := hl; have h2 := HZ.out; omega
    have HZ2 : Hid (z - (l : Int) = (mo : Int) - (lenN m (m.now.take (k + 1)) : Int)) := Lib.hid (by
      have h1 : (filM p).b.length = l := hl
      have h2 := HZ.out
      rw [hsucc]
      dsimp only
      rw [hfm, h1]
      omega)
    have hw1 : IntKind.i64.wrap (z - (l : Int)) = z - (l : Int) := by rw [IntKind.wrap_i64]; omega
    rw [HNA.out] at hA
    rw [HFA.out] at hA'
    rw [hA] at c1
    rw [hA'] at c0
    clear hp hrow hfp hmem hfm hrow' hle hsucc hsm hl hkl hA hA'
    go_wp2_with fail
    go_quiet (fail)
    go_wp2_with fail
    go_roundg (n - (k + 1))
    case measure => omega
    case rel => exact ⟨k + 1, z - (l : Int), by omega, rfl, by first | rfl | exact congrArg (Value.int .i64) (by omega) | go_num, hz3, by omega, by first | rfl | exact congrArg (Value.int .i64) (by omega) | go_num, HZ2, Lib.hid (below_drewN HB.out _)⟩
  · obtain rfl : k = n := by omega
    have HF2 : Hid ((q : Int) = max z 0) := Lib.hid (by
      have h := HZ.out
      rw [List.take_of_length_le (by rw [HN.out]; exact Nat.le_refl _)] at h
      rw [← HQ.out, h, roomM, HMO.out]
      omega)
    by_cases hz0 : z < 0
    · go_wp2_with fail
      go_ret
      exact ⟨by rw [HF2.out]; have : max z 0 = 0 := by omega
                rw [this]; rfl, by first | exact HB1.out.trans (HB.out.mono HB1.out.size) | (rw [← hg]; exact HB1.out.trans (HB.out.mono HB1.out.size))⟩
    · go_wp2_with fail
      go_ret
      exact ⟨by rw [HF2.out]; have : max z 0 = z := by omega
                rw [this]; rfl, by first | exact HB1.out.trans (HB.out.mono HB1.out.size) | (rw [← hg]; exact HB1.out.trans (HB.out.mono HB1.out.size))⟩
end Go.Proofs.Ytpmifpblamjclaa
