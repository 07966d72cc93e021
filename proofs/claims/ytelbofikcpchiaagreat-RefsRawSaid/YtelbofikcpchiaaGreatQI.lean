/- The document's disk: New, Read; what is wrong with a step. (With the texts that it stands on.) -/
import Derived.Test.YtelbofikcpchiaaGreatQL
import Derived.Test.YtelbofikcpchiaaGreatPartsOpen
namespace Go.Proofs.YtelbofikcpchiaaGreat
open Go.RowKit
def nmC (p : List UInt8 × Nat) : List Value := [strV p.1, .int .i64 (p.2 : Int)]
def namesR (ns : NM) : List Value := ns.flatMap nmC
theorem namesR_len (ns : NM) : (namesR ns).length = ns.length * 2 := flat_length ns (fun _ _ => rfl)
theorem namesR_app (a b : NM) : namesR (a ++ b) = namesR a ++ namesR b := by simp [namesR]
def findI (ns : NM) (s : List UInt8) : Int := match findN ns s with
 | some f => (f : Int)
 | none => -1
theorem findN_drop {ns : NM} {s : List UInt8} {k : Nat} (h : ∀ i (hi : i < ns.length), i < k → ns[i].1 ≠ s) : findN ns s = findN (ns.drop k) s := by
 unfold findN
 induction k generalizing ns with
 | zero => rfl
 | succ k ih =>
   cases ns with
   | nil => rfl
   | cons p r =>
     have h0 := h 0 (by simp) (by omega)
     rw [List.find?_cons, show (p.1 == s) = false from by rw [beq_eq_false_iff_ne]; exact h0, List.drop_succ_cons]
     exact ih (fun i hi hk => h (i + 1) (by simp; omega) (by omega))
theorem rnamed_any (S : ByteArray) (w : World) : Calls Tryz.prog 84 #[.string S] w fun e w' => e = .returned (.bool (namedB S.data.toList)) ∧ w' = w := by
 have hs := size_toList S
 unfold namedB
 rw [hs]
 by_cases h1 : 0 < S.size
 ·have j1 : (0 : Int) < (S.size : Int) := by omega
  have h1' : 1 ≤ S.size := h1
  by_cases h2 : S.size ≤ 100
  ·have j2 : (S.size : Int) ≤ 100 := by omega
   go_enter Tryz.func84, Tryz.ntmps84
   go_wp2_with fail
   go_ret
   exact ⟨by simp [h1', h2], rfl⟩
  ·have j2 : ¬ ((S.size : Int) ≤ 100) := by omega
   go_enter Tryz.func84, Tryz.ntmps84
   go_wp2_with fail
   go_ret
   exact ⟨by simp [h1', h2], rfl⟩
 ·have j1 : ¬ ((0 : Int) < (S.size : Int)) := by omega
  have h1' : ¬ (1 ≤ S.size) := h1
  go_enter Tryz.func84, Tryz.ntmps84
  go_wp2_with fail
  go_ret
  exact ⟨by simp [h1'], rfl⟩
set_option maxRecDepth 100000 in
set_option maxHeartbeats 4000000 in
theorem rfind_any (A : Option Addr) (ns : NM) (n c : Nat) (hn : ns.length = n) (hnl : n ≤ 1000000) (S : ByteArray) (w : World) (hr : Rd w A (namesR ns)) :
  Calls Tryz.prog 43 #[.slice A n c, .string S] w fun e w' => e = .returned (.int .i64 (findI ns S.data.toList)) ∧ w' = w := by
 have HR := h_ hr
 have HN := h_ hn
 obtain ⟨q, hq⟩ := eX (findI ns S.data.toList)
 have HQ := h_ hq
 rw [hq]
 clear hr hn hq
 go_enter Tryz.func43, Tryz.ntmps43
 go_wp2_with fail
 go_loopg [5] (n * 1) (fun gk_ iv wr => ∃ (k : Nat), k ≤ n ∧ gk_ = n - k ∧ iv = .int .i64 (k : Int) ∧ Hid (∀ i (hi : i < ns.length), i < k → ns[i].1 ≠ S.data.toList) ∧ wr = w)
 case atStart => exact ⟨0, by omega, by omega, rfl, h_ (fun i hi h => absurd h (by omega)), rfl⟩
 case round =>
 obtain ⟨k, hk, rfl, rfl, HK, rfl⟩ := hrel
 by_cases hlt : k < n
 ·have i1 : (k : Int) < (n : Int) := by omega
  have hkl : k < ns.length := by rw [HN.out]; exact hlt
  obtain ⟨b, o, hA, _⟩ := HR.out.all (by rw [namesR_len]; omega)
  have hrow := rd_flat (f := nmC) (m := 2) (by have := HR.out; rw [hA] at this; exact this) (fun _ _ => rfl) k hkl
  obtain ⟨s, f, hp⟩ : ∃ s f, ns[k] = (s, f) := ⟨_, _, rfl⟩
  rw [hp] at hrow
  have c0 : wr.cell? ⟨b, o + k * 2, none⟩ = some (.string ⟨s.toArray⟩) := hrow 0 _ rfl
  have c1 : wr.cell? ⟨b, o + k * 2 + 1, none⟩ = some (.int .i64 (f : Int)) := hrow 1 _ rfl
  obtain ⟨T, hT⟩ : ∃ T : ByteArray, (⟨s.toArray⟩ : ByteArray) = T := ⟨_, rfl⟩
  rw [hT] at c0
  have hTs : T.data.toList = s := by rw [← hT]
  have HA := h_ hA
  rw [hA]
  clear hA hrow
  by_cases he : T = S
  ·have heq : (T.toList == S.toList) = true := by rw [names_eq, decide_eq_true he]
   have HF : Hid (q = (f : Int)) := h_ (by
    rw [← HQ.out]
    unfold findI
    rw [findN_drop HK.out, List.drop_eq_getElem_cons hkl, hp]
    unfold findN
    rw [List.find?_cons, show (s == S.data.toList) = true from by rw [beq_iff_eq, ← hTs, he]]
    rfl)
   clear hp hT hTs he
   go_wp2_with fail
   go_ret
   exact ⟨by rw [HF.out]; rfl, rfl⟩
  ·have heq : (T.toList == S.toList) = false := by rw [names_eq, decide_eq_false he]
   have HK2 : Hid (∀ i (hi : i < ns.length), i < k + 1 → ns[i].1 ≠ S.data.toList) := h_ (fun i hi h => by
    by_cases hik : i = k
    ·subst hik
     rw [hp]
     dsimp only
     intro e
     refine he ?_
     rw [← hT, e]
    ·exact HK.out i hi (by omega))
   clear hp hT hTs he
   go_wp2_with fail
   rw [← HA.out]
   go_roundg (n - (k + 1))
   case measure => omega
   case rel => exact ⟨k + 1, by omega, rfl, by first | rfl | exact congrArg (Value.int .i64) (by omega) | go_num, HK2, rfl⟩
 ·obtain rfl : k = n := by omega
  have HF : Hid (q = -1) := h_ (by
   rw [← HQ.out]
   unfold findI
   rw [findN_drop HK.out, List.drop_eq_nil_of_le (by rw [HN.out]; omega)]
   rfl)
  go_wp2_with fail
  go_ret
  exact ⟨by rw [HF.out]; rfl, rfl⟩
def RdF (F : Nat → Prop) (w : World) (A : Option Addr) (cs : List Value) : Prop := Rd w A cs ∧ (cs ≠ [] → ∀ a, A = some a → ¬ F a.block)
theorem RdF.nil {F : Nat → Prop} {w : World} {A : Option Addr} : RdF F w A [] := ⟨Rd.nil, fun h => absurd rfl h⟩
theorem RdF.below {F : Nat → Prop} {w w' : World} {A : Option Addr} {cs : List Value} (h : RdF F w A cs) (hb : Below w.heap.size w w') : RdF F w' A cs := ⟨h.1.below hb, h.2⟩
theorem RdF.fresh {F : Nat → Prop} {w w' : World} {A : Option Addr} {cs : List Value} (h : Rd w' A cs) (hf : ∀ a, A = some a → w.heap.size ≤ a.block) (hF : ∀ b, F b → b < w.heap.size) : RdF F w' A cs :=
 ⟨h, fun _ a ha hb => by have h1 := hf a ha; have h2 := hF _ hb; omega⟩
theorem RdF.take {F : Nat → Prop} {w : World} {A : Option Addr} {cs : List Value} (h : RdF F w A cs) (k : Nat) : RdF F w A (cs.take k) := ⟨h.1.take k, fun hn => h.2 (fun e => hn (by rw [e, List.take_nil]))⟩
theorem RdF.aft {N g : Nat} {w w' : World} {m : DM} {d d' : DA} {A : Option Addr} {cs : List Value} (h : RdF (foot g d) w A cs) (ha : Aft N g w w' m d d') : RdF (foot g d') w' A cs := by
 by_cases hc : cs = []
 ·rw [hc]
  exact RdF.nil
 ·have hp : 0 < cs.length := List.length_pos_iff.2 hc
  obtain ⟨b, o, hA, _⟩ := h.1.all hp
  have hn := h.2 hc _ hA
  have hr := h.1
  rw [hA] at hr
  have hl := hr.lt hp
  refine ⟨h.1.keep (fun ad e _ => ?_), fun _ a e hf => ?_⟩
  ·rw [hA] at e
   cases e
   exact ha.frm.block b hl hn
  ·rw [hA] at e
   cases e
   rcases ha.ext _ hf with h1 | h1
   ·exact hn h1
   ·dsimp only at h1
    omega
def fileC (p : PV × Nat) : List Value := [p.1.v, .int .i64 (p.2 : Int)]
def filesC (fs : List (PV × Nat)) : List Value := fs.flatMap fileC
theorem filesC_len (fs : List (PV × Nat)) : (filesC fs).length = fs.length * 2 := flat_length fs (fun _ _ => rfl)
def filM (p : PV × Nat) : FM := ⟨p.1.bs, p.2⟩
def turnR (t : TM) : List Value := [strV t.fr, strV t.to_, .int .i64 (t.f : Int)]
def turnsR (ts : List TM) : List Value := ts.flatMap turnR
theorem turnsR_len (ts : List TM) : (turnsR ts).length = ts.length * 3 := flat_length ts (fun _ _ => rfl)
structure RA where
 fs : List (PV × Nat)
 fa : Option Addr
 fc : Nat
 na : Option Addr
 nc : Nat
 sa : Option Addr
 sc : Nat
 ta : Option Addr
 tc : Nat
def RA.row (R : RA) (m : DM) : Array Value := #[.slice R.fa m.files.length R.fc, .slice R.na m.now.length R.nc, .slice R.sa m.sure.length R.sc, .slice R.ta m.turns.length R.tc, .int .i64 (m.most : Int), .int .i64 (m.fuse : Int), .bool m.down]
def RA.val (R : RA) (m : DM) : Value := .agg (R.row m)
structure RIn (F : Nat → Prop) (w : World) (R : RA) (m : DM) : Prop where
 fm : m.files = R.fs.map filM
 rf : RdF F w R.fa (filesC R.fs)
 rb : ∀ p ∈ R.fs, RdF F w p.1.A (b8s p.1.bs) ∧ p.1.bs.length ≤ p.1.c ∧ p.1.c ≤ 9223372036854775807
 rn : RdF F w R.na (namesR m.now)
 rs : RdF F w R.sa (namesR m.sure)
 rt : RdF F w R.ta (turnsR m.turns)
set_option linter.unusedSectionVars false
section
variable {F : Nat → Prop} {w w' : World} {R : RA} {m : DM}
theorem RIn.below (h : RIn F w R m) (hb : Below w.heap.size w w') : RIn F w' R m :=
 ⟨h.fm, h.rf.below hb, fun p hp => ⟨(h.rb p hp).1.below hb, (h.rb p hp).2⟩, h.rn.below hb, h.rs.below hb, h.rt.below hb⟩
theorem RIn.aft {N g : Nat} {m1 : DM} {d d' : DA} (h : RIn (foot g d) w R m) (ha : Aft N g w w' m1 d d') : RIn (foot g d') w' R m :=
 ⟨h.fm, h.rf.aft ha, fun p hp => ⟨(h.rb p hp).1.aft ha, (h.rb p hp).2⟩, h.rn.aft ha, h.rs.aft ha, h.rt.aft ha⟩
theorem RIn.fl (h : RIn F w R m) : R.fs.length = m.files.length := by rw [h.fm, List.length_map]
theorem RIn.file (h : RIn F w R m) {i : Nat} (hi : i < m.files.length) : ∃ p, R.fs[i]? = some p ∧ p ∈ R.fs ∧ fileM m i = filM p ∧ m.files[i]? = some (filM p) := by
 have hi' : i < R.fs.length := by rw [h.fl]; exact hi
 have e : m.files[i]? = some (filM R.fs[i]) := by rw [h.fm, List.getElem?_map, List.getElem?_eq_getElem hi']; rfl
 refine ⟨R.fs[i], List.getElem?_eq_getElem hi', List.getElem_mem hi', ?_, e⟩
 unfold fileM
 rw [List.getD, e]
 rfl
theorem RIn.fcell (h : RIn F w R m) {i : Nat} {p : PV × Nat} (hp : R.fs[i]? = some p) : ∃ b o, R.fa = some ⟨b, o, none⟩ ∧ w.rangeAt b (o + i * 2) (fileC p) := by
 obtain ⟨hi, he⟩ := List.getElem?_eq_some_iff.1 hp
 obtain ⟨b, o, hA, _⟩ := h.rf.1.all (by rw [filesC_len]; omega)
 refine ⟨b, o, hA, ?_⟩
 have hr := h.rf.1
 rw [hA] at hr
 have := rd_flat (f := fileC) (m := 2) hr (fun _ _ => rfl) i hi
 rw [he] at this
 exact this
end
theorem nm_cell {w : World} {A : Option Addr} {ns : NM} (h : Rd w A (namesR ns)) {i : Nat} {p : List UInt8 × Nat} (hp : ns[i]? = some p) : ∃ b o, A = some ⟨b, o, none⟩ ∧ w.rangeAt b (o + i * 2) (nmC p) := by
 obtain ⟨hi, he⟩ := List.getElem?_eq_some_iff.1 hp
 obtain ⟨b, o, hA, _⟩ := h.all (by rw [namesR_len]; omega)
 refine ⟨b, o, hA, ?_⟩
 rw [hA] at h
 have := rd_flat (f := nmC) (m := 2) h (fun _ _ => rfl) i hi
 rw [he] at this
 exact this
theorem lenN_succ (m : DM) (ns : NM) {k : Nat} {p : List UInt8 × Nat} (hp : ns[k]? = some p) : lenN m (ns.take (k + 1)) = lenN m (ns.take k) + (fileM m p.2).b.length := by
 unfold lenN
 rw [List.take_add_one, hp]
 simp
theorem lenN_leF {K L : Nat} {m : DM} (h : Fit K L m) (ns : NM) : lenN m ns ≤ ns.length * L := by
 unfold lenN
 induction ns with
 | nil => simp
 | cons p r ih =>
   have := (h.fileM p.2).1
   rw [List.map_cons, List.sum_cons, List.length_cons, Nat.succ_mul]
   omega
set_option maxRecDepth 100000 in
set_option maxHeartbeats 4000000 in
theorem rroom_any {K L : Nat} {F : Nat → Prop} (R : RA) (m : DM) (w : World) (h : RIn F w R m) (hf : Fit K L m) (hK : K ≤ 1000) (hL : L ≤ 1000000) :
  Calls Tryz.prog 85 #[R.val m] w fun e w' => e = .returned (.int .i64 (roomM m)) ∧ Below w.heap.size w w' := by
 have H := h_ h
 have HF := h_ hf
 obtain ⟨n, hn⟩ := eX m.now.length
 obtain ⟨nf, hnf⟩ := eX m.files.length
 have hnk : n ≤ 1000 := by have := hf.now; omega
 have hnfk : nf ≤ 1000 := by have := hf.files; omega
 have hmm := hf.most
 have HL : Hid (∀ k, lenN m (m.now.take k) ≤ 1000000000) := h_ (fun k => by
  have h1 := lenN_leF hf (m.now.take k)
  have h2 : (m.now.take k).length ≤ 1000 := by rw [List.length_take]; omega
  have h3 := Nat.mul_le_mul h2 hL
  omega)
 unfold RA.val RA.row
 rw [hn, hnf]
 obtain ⟨ns, hns⟩ := eX m.sure.length
 obtain ⟨nt, hnt⟩ := eX m.turns.length
 rw [hns, hnt]
 obtain ⟨mo, hmo⟩ := eX m.most
 obtain ⟨fu, hfu⟩ := eX m.fuse
 obtain ⟨dn, hdn⟩ := eX m.down
 rw [hmo] at hmm
 rw [hmo, hfu, hdn]
 have HMO := h_ hmo
 have HN := h_ hn
 have HNF := h_ hnf
 obtain ⟨q, hq⟩ := eX (roomM m)
 have HQ := h_ hq
 rw [hq]
 obtain ⟨fa, hfa⟩ := eX R.fa
 obtain ⟨na, hna⟩ := eX R.na
 have HFA := h_ hfa
 have HNA := h_ hna
 rw [hfa, hna]
 obtain ⟨W1, hW1⟩ := eX (w.alloc (.cells #[.slice fa nf R.fc, .slice na n R.nc, .slice R.sa ns R.sc, .slice R.ta nt R.tc, .int .i64 (mo : Int), .int .i64 (fu : Int), .bool dn] 53))
 obtain ⟨r1, b1, s1⟩ := new_row hW1
 obtain ⟨c0, c1, -, -, c4, -⟩ := rw7 (h_ r1)
 have HB1 := h_ b1
 clear h hf hn hnf hns hnt hmo hfu hdn hq hfa hna r1 b1 s1
 have HC : Hid (∀ W, Below W1.heap.size W1 W → W.cell? ⟨w.heap.size, 0, none⟩ = some (.slice fa nf R.fc) ∧ W.cell? ⟨w.heap.size, 1, none⟩ = some (.slice na n R.nc)) := h_ (fun W hb => by
  have hlt := World.block_lt_of_cell? W1 _ c0
  exact ⟨cell_below c0 hlt hb, cell_below c1 hlt hb⟩)
 clear c0 c1
 go_enter Tryz.func85, Tryz.ntmps85
 go_wp2_with fail
 obtain ⟨g, hg⟩ := eX w.heap.size
 rw [hg] at HC ⊢
 clear hW1 c4
 go_loopg [3, 4] (n * 1) (fun gk_ sv iv wr => ∃ (k : Nat) (z : Int), k ≤ n ∧ gk_ = n - k ∧ sv = .int .i64 z ∧ -2000000000 ≤ z ∧ z ≤ (mo : Int) ∧ iv = .int .i64 (k : Int) ∧ Hid (z = (mo : Int) - (lenN m (m.now.take k) : Int)) ∧ Hid (Below W1.heap.size W1 wr))
 case atStart => exact ⟨0, _, by omega, by omega, rfl, by omega, by omega, rfl, h_ (by simp [lenN]), h_ (Below.refl _ _)⟩
 case round =>
 obtain ⟨k, z, hk, rfl, rfl, hz1, hz2, rfl, HZ, HB⟩ := hrel
 obtain ⟨c0, c1⟩ := HC.out _ HB.out
 by_cases hlt : k < n
 ·have i1 : (k : Int) < (n : Int) := by omega
  have hkl : k < m.now.length := by rw [HN.out]; exact hlt
  obtain ⟨⟨s, f⟩, hp⟩ : ∃ p, m.now[k]? = some p := ⟨_, List.getElem?_eq_getElem hkl⟩
  obtain ⟨b, o, hA, hrow⟩ := nm_cell ((H.out.below HB1.out).below HB.out).rn.1 hp
  have hfl : f < m.files.length := HF.out.ids.now _ (List.mem_of_getElem? hp)
  obtain ⟨p, hfp, hmem, hfm, _⟩ := H.out.file hfl
  obtain ⟨b', o', hA', hrow'⟩ := ((H.out.below HB1.out).below HB.out).fcell hfp
  have a1 : wr.cell? ⟨b, o + k * 2 + 1, none⟩ = some (.int .i64 (f : Int)) := hrow 1 _ rfl
  have a2 : wr.cell? ⟨b', o' + f * 2, none⟩ = some (.slice p.1.A p.1.bs.length p.1.c) := hrow' 0 _ rfl
  rw [HNF.out] at hfl
  have j1 : (f : Int) < (nf : Int) := by omega
  have hle := (HF.out.fileM f).1
  have hsucc := lenN_succ m m.now hp
  rw [hfm] at hle
  have hsm := HL.out (k + 1)
  rw [hsucc] at hsm
  dsimp only at hsm
  rw [hfm] at hsm
  obtain ⟨l, hl⟩ := eX p.1.bs.length
  have hl1 : l ≤ 1000000 := by have : (filM p).b.length = l := hl; omega
  rw [hl] at a2
  have hz3 : -2000000000 ≤ z - (l : Int) := by have h1 : (filM p).b.length = l := hl; have h2 := HZ.out; omega
  have HZ2 : Hid (z - (l : Int) = (mo : Int) - (lenN m (m.now.take (k + 1)) : Int)) := h_ (by
   have h1 : (filM p).b.length = l := hl
   have h2 := HZ.out
   rw [hsucc]
   dsimp only
   rw [hfm, h1]
   omega)
  have hw1 : IntKind.i64.wrap (z - (l : Int)) = z - (l : Int) := by rw [IntKind.wrap_i64]; omega
  rw [HNA.out] at hA
  rw [HFA.out] at hA'
  rw [hA] at c1
  rw [hA'] at c0
  clear hp hrow hfp hmem hfm hrow' hle hsucc hsm hl hkl hA hA'
  go_wp2_with fail
  go_quiet (fail)
  go_wp2_with fail
  go_roundg (n - (k + 1))
  case measure => omega
  case rel => exact ⟨k + 1, z - (l : Int), by omega, rfl, by first | rfl | exact congrArg (Value.int .i64) (by omega) | go_num, hz3, by omega, by first | rfl | exact congrArg (Value.int .i64) (by omega) | go_num, HZ2, h_ (below_drewN HB.out _)⟩
 ·obtain rfl : k = n := by omega
  have HF2 : Hid ((q : Int) = max z 0) := h_ (by
   have h := HZ.out
   rw [List.take_of_length_le (by rw [HN.out]; exact Nat.le_refl _)] at h
   rw [← HQ.out, h, roomM, HMO.out]
   omega)
  by_cases hz0 : z < 0
  ·go_wp2_with fail
   go_ret
   exact ⟨by rw [HF2.out]; have : max z 0 = 0 := by omega
             rw [this]; rfl, by first | exact HB1.out.trans (HB.out.mono HB1.out.size) | (rw [← hg]; exact HB1.out.trans (HB.out.mono HB1.out.size))⟩
  ·go_wp2_with fail
   go_ret
   exact ⟨by rw [HF2.out]; have : max z 0 = z := by omega
             rw [this]; rfl, by first | exact HB1.out.trans (HB.out.mono HB1.out.size) | (rw [← hg]; exact HB1.out.trans (HB.out.mono HB1.out.size))⟩
theorem less_before : ∀ (a b : List UInt8), Op.bytesLess a b = bytesBefore a b
 | [], [] => rfl
 | [], _ :: _ => rfl
 | _ :: _, [] => rfl
 | a :: x, b :: y => by simp only [Op.bytesLess, bytesBefore, less_before x y]
theorem before_not {a b : List UInt8} (h : bytesBefore a b = true) : bytesBefore b a = false := by
 cases hb : bytesBefore b a with
 | false => rfl
 | true => rw [WideShapes.bytes_trans _ _ _ h hb |>.symm.trans (WideAt.bytes_irrefl a)]
def delT (ns : NM) (fr to_ : List UInt8) : NM := delN (delN ns fr) to_
def doD (ns : NM) (fr to_ : List UInt8) (f : Nat) : NM := if to_ = [] then delT ns fr to_ else insN (to_, f) (delT ns fr to_)
theorem delT_succ {ns : NM} {fr to_ : List UInt8} {k : Nat} {p : List UInt8 × Nat} (hp : ns[k]? = some p) (h1 : p.1 ≠ fr) (h2 : p.1 ≠ to_) : delT (ns.take (k + 1)) fr to_ = delT (ns.take k) fr to_ ++ [p] := by
 unfold delT delN
 rw [List.take_add_one, hp]
 simp [h1, h2]
theorem delT_skip {ns : NM} {fr to_ : List UInt8} {k : Nat} {p : List UInt8 × Nat} (hp : ns[k]? = some p) (h : p.1 = fr ∨ p.1 = to_) : delT (ns.take (k + 1)) fr to_ = delT (ns.take k) fr to_ := by
 unfold delT delN
 rw [List.take_add_one, hp]
 rcases h with h | h
 ·simp [h]
 ·by_cases h' : to_ = fr
  ·simp [h, h']
  ·simp [h, h']
theorem delT_mem {ns : NM} {fr to_ : List UInt8} {p : List UInt8 × Nat} (h : p ∈ delT ns fr to_) : p.1 ≠ to_ := (delN_mem.1 h).2
theorem delN_none {ns : NM} {s : List UInt8} (h : ∀ p ∈ ns, p.1 ≠ s) : delN ns s = ns := by
 unfold delN
 rw [List.filter_eq_self]
 intro p hp
 simp [h p hp]
theorem doD_do {ns : NM} (h : ∀ p ∈ ns, p.1 ≠ []) (t : TM) : doD ns t.fr t.to_ t.f = doN ns t := by
 have h1 : (if t.fr = [] then ns else delN ns t.fr) = delN ns t.fr := by
  split
  ·rename_i e; rw [e, delN_none h]
  ·rfl
 unfold doD doN delT
 dsimp only
 rw [h1]
 split
 ·rename_i e
  rw [e, delN_none (fun p hp => h p (delN_mem.1 hp).1)]
 ·rfl
theorem nm_cells1 (ns : NM) : ∀ u ∈ namesR ns, u.oneCell' = true := flat_one ns (fun e _ v hv => by
 simp only [nmC, List.mem_cons, List.not_mem_nil, or_false] at hv
 rcases hv with rfl | rfl <;> rfl)
theorem info_nm2 {a b : Value} : (Tryz.prog.info? 153).map (·.size) = some ([a, b] : List Value).length := by kernel_rfl
theorem info_nmz : (Tryz.prog.info? 153).map (fun i => (i.zero, i.size, i.bytes)) = some (some (.agg #[.string ⟨#[]⟩, .int .i64 0]), 2, 24) := by kernel_rfl
theorem two_one {X : ByteArray} {z : Int} : ∀ u ∈ ([.string X, .int .i64 z] : List Value), u.oneCell' = true := by
 intro u hu
 simp only [List.mem_cons, List.not_mem_nil, or_false] at hu
 rcases hu with rfl | rfl <;> rfl
theorem own_start {w0 w : World} (e : TypeId) (size : Nat) (hb : w0.heap.size ≤ w.heap.size) : (w.alloc (.cells #[] e)).ownsRow w0.heap.size e size (.slice (some ⟨w.heap.size, 0, none⟩) 0 0) 0 [] := by
 have := own_new w w0.heap.size e size 0 [] hb (by simp) (by unfold maxLen; omega)
 exact this
structure NmOut (w0 w : World) (A : Option Addr) (n c : Nat) (ns : NM) : Prop where
 len : n = ns.length
 own : w.ownsRow w0.heap.size 153 2 (.slice A n c) n (namesR ns)
 bel : Below w0.heap.size w0 w
theorem NmOut.grow {w0 w w' : World} {A A' : Option Addr} {n c c' : Nat} {ns : NM} {p : List UInt8 × Nat} (h : NmOut w0 w A n c ns) (ho : w'.ownsRow w0.heap.size 153 2 (.slice A' (n + 1) c') (n + 1) (namesR ns ++ nmC p)) (hg : w.grownBy w' (Value.slice A n c).ownBlock) : NmOut w0 w' A' (n + 1) c' (ns ++ [p]) := by
 refine ⟨by rw [List.length_append, ← h.len]; rfl, ?_, ?_⟩
 ·rw [namesR_app, show namesR [p] = nmC p from by simp [namesR]]
  exact ho
 ·exact below_grown_own h.bel h.own hg h.bel.size
theorem NmOut.below {w0 w w' : World} {A : Option Addr} {n c : Nat} {ns : NM} (h : NmOut w0 w A n c ns) (hb : Below w.heap.size w w') : NmOut w0 w' A n c ns := ⟨h.len, own_below h.own hb, ext_trans h.bel hb⟩
theorem NmOut.rd {w0 w : World} {A : Option Addr} {n c : Nat} {ns : NM} (h : NmOut w0 w A n c ns) : Rd w A (namesR ns) := own_rd h.own
theorem NmOut.mono {w0 w1 w : World} {A : Option Addr} {n c : Nat} {ns : NM} (h : NmOut w1 w A n c ns) (hb : Below w0.heap.size w0 w1) : NmOut w0 w A n c ns := ⟨h.len, own_mono h.own hb.size, hb.trans (h.bel.mono hb.size)⟩
set_option maxRecDepth 100000 in
set_option maxHeartbeats 8000000 in
theorem rdo_any (A : Option Addr) (ns : NM) (n c : Nat) (hn : ns.length = n) (hnl : n ≤ 1000) (S T : ByteArray) (f : Nat) (w : World) (hr : Rd w A (namesR ns)) :
  Calls Tryz.prog 46 #[.slice A n c, .agg #[.string S, .string T, .int .i64 (f : Int)]] w fun e w' => ∃ A' n' c', e = .returned (.slice A' n' c') ∧ NmOut w w' A' n' c' (doD ns S.data.toList T.data.toList f) := by
 have HN := h_ hn
 obtain ⟨W1, hW1⟩ := eX (w.alloc (.cells #[.string S, .string T, .int .i64 (f : Int)] 103))
 obtain ⟨r1, b1, s1⟩ := new_row hW1
 obtain ⟨W2, hW2⟩ := eX (W1.alloc (.cells #[] 153))
 obtain ⟨r2, b2, s2⟩ := new_row hW2
 have HR := h_ (hr.below b1)
 have HB1 := h_ b1
 have HO : Hid (NmOut W1 W2 (some ⟨W1.heap.size, 0, none⟩) 0 0 []) := h_ ⟨rfl, by rw [← hW2]; exact own_start _ _ (Nat.le_refl _), b2⟩
 obtain ⟨g, hg⟩ := eX w.heap.size
 rw [hg] at r1
 have HT : Hid (∀ W, Below W1.heap.size W1 W → W.heap[g]? = some (.cells #[.string S, .string T, .int .i64 (f : Int)] 103 (0, 0))) := h_ (fun W hb => (hb.block _ (by omega)).trans r1)
 obtain ⟨fr, hfr⟩ := eX S.data.toList
 obtain ⟨to_, hto⟩ := eX T.data.toList
 have HFR := h_ hfr
 have HTO := h_ hto
 rw [hfr, hto]
 obtain ⟨q, hq⟩ := eX (doD ns fr to_ f)
 have HQ0 := h_ hq
 rw [hq]
 clear hq hn hr r1 b1 s1 r2 b2 s2 hfr hto
 go_enter Tryz.func46, Tryz.ntmps46
 go_wp2_with fail
 try rw [hg]
 clear hg hW1 hW2
 go_loopg [5, 6] (n * 1) (fun gk_ ov iv wr => ∃ (k : Nat) (A1 : Option Addr) (n1 c1 : Nat), k ≤ n ∧ n1 ≤ k ∧ gk_ = n - k ∧ ov = .slice A1 n1 c1 ∧ iv = .int .i64 (k : Int) ∧ Hid (NmOut W1 wr A1 n1 c1 (delT (ns.take k) fr to_)))
 case atStart => exact ⟨0, _, 0, 0, by omega, by omega, by omega, rfl, rfl, HO⟩
 case round =>
 clear HO
 obtain ⟨k, A1, n1, c1, hk, hn1, rfl, rfl, rfl, HO⟩ := hrel
 have hT := HT.out _ HO.out.bel
 have t0 : wr.cell? ⟨g, 0, none⟩ = some (.string S) := row_cell hT 0
 have t1 : wr.cell? ⟨g, 1, none⟩ = some (.string T) := row_cell hT 1
 have t2 : wr.cell? ⟨g, 2, none⟩ = some (.int .i64 (f : Int)) := row_cell hT 2
 clear hT
 by_cases hlt : k < n
 ·have i1 : (k : Int) < (n : Int) := by omega
  have hkl : k < ns.length := by rw [HN.out]; exact hlt
  obtain ⟨⟨s, z⟩, hp⟩ : ∃ p, ns[k]? = some p := ⟨_, List.getElem?_eq_getElem hkl⟩
  obtain ⟨b, o, hA, hrow⟩ := nm_cell (HR.out.below HO.out.bel) hp
  obtain ⟨X, hX, hXs⟩ : ∃ X : ByteArray, strV s = .string X ∧ X.data.toList = s := ⟨_, rfl, rfl⟩
  have a0 : wr.cell? ⟨b, o + k * 2, none⟩ = some (.string X) := by rw [← hX]; exact hrow 0 _ rfl
  have HRW : Hid (wr.rangeAt b (o + k * 2) [.string X, .int .i64 (z : Int)]) := h_ (by rw [← hX]; exact hrow)
  have HNC : Hid (nmC (s, z) = [.string X, .int .i64 (z : Int)]) := h_ (by unfold nmC; rw [hX])
  have HP := h_ hp
  have HXS := h_ hXs
  have HA := h_ hA
  rw [hA]
  clear hp hrow hX hXs hA hkl
  by_cases he1 : X = S
  ·have hc1 : (X.toList == S.toList) = true := by rw [names_eq, decide_eq_true he1]
   have hd1 : (X.toList != S.toList) = false := by rw [bne, hc1]; rfl
   have HS : Hid (delT (ns.take (k + 1)) fr to_ = delT (ns.take k) fr to_) := h_ (delT_skip HP.out (.inl (by rw [← HFR.out, ← he1, HXS.out])))
   clear he1
   go_wp2_with fail
   go_quiet (fail)
   go_wp2_with fail
   rw [← HA.out]
   go_roundg (n - (k + 1))
   case measure => omega
   case rel => exact ⟨k + 1, A1, n1, c1, by omega, by omega, rfl, rfl, by first | rfl | exact congrArg (Value.int .i64) (by omega) | go_num, h_ (by rw [HS.out]; exact HO.out.below (below_drewN (Below.refl _ _) _))⟩
  ·have hc1 : (X.toList == S.toList) = false := by rw [names_eq, decide_eq_false he1]
   have hd1 : (X.toList != S.toList) = true := by rw [bne, hc1]; rfl
   by_cases he2 : X = T
   ·have hc2 : (X.toList == T.toList) = true := by rw [names_eq, decide_eq_true he2]
    have hd2 : (X.toList != T.toList) = false := by rw [bne, hc2]; rfl
    have HS : Hid (delT (ns.take (k + 1)) fr to_ = delT (ns.take k) fr to_) := h_ (delT_skip HP.out (.inr (by rw [← HTO.out, ← he2, HXS.out])))
    clear he1 he2
    go_wp2_with fail
    go_quiet (fail)
    go_wp2_with fail
    rw [← HA.out]
    go_roundg (n - (k + 1))
    case measure => omega
    case rel => exact ⟨k + 1, A1, n1, c1, by omega, by omega, rfl, rfl, by first | rfl | exact congrArg (Value.int .i64) (by omega) | go_num, h_ (by rw [HS.out]; exact HO.out.below (below_drewN (Below.refl _ _) _))⟩
   ·have hc2 : (X.toList == T.toList) = false := by rw [names_eq, decide_eq_false he2]
    have hd2 : (X.toList != T.toList) = true := by rw [bne, hc2]; rfl
    have HS : Hid (delT (ns.take (k + 1)) fr to_ = delT (ns.take k) fr to_ ++ [(s, z)]) := h_ (delT_succ HP.out (fun e => he1 (ba_ext (by rw [HXS.out, HFR.out]; exact e))) (fun e => he2 (ba_ext (by rw [HXS.out, HTO.out]; exact e))))
    clear he1 he2
    go_wp2_with fail
    go_quiet (fail)
    have HO5 := h_ (HO.out.below (below_drewN (Below.refl _ _) nq))
    have HRW5 : Hid ((wr.drewN nq).rangeAt b (o + k * 2) [.string X, .int .i64 (z : Int)]) := h_ HRW.out
    generalize wr.drewN nq = w5 at *
    obtain ⟨W6, hW6⟩ := eX (w5.alloc (.cells #[.string X, .int .i64 (z : Int)] 153))
    obtain ⟨r6, b6, s6⟩ := new_row hW6
    have HO6 := h_ (HO5.out.below b6)
    have HR6 : Hid (Rd W6 (some ⟨w5.heap.size, 0, none⟩) [.string X, .int .i64 (z : Int)]) := h_ (range_rd (range_of_row (cs := [.string X, .int .i64 (z : Int)]) r6))
    clear r6 b6 s6 HO HO5
    go_wp2_with (first
     | ((with_reducible (refine wpList_load_cells 153 _ b (o + k * 2) ([.string X, .int .i64 (z : Int)]) HRW5.out Tryz.underlying153 rfl info_nm2 ?_ rfl ?_ ?_)); exact rfl; (exact rfl))
     | (at_builtin; refine wpList_append_rd _ rfl _ _ 50 rfl W1.heap.size 153 _ 2 24 Tryz.underlying50 info_nmz rfl (by decide) (.slice A1 n1 c1) n1 _ rfl HO6.out.own _ 1 _ ([.string X, .int .i64 (z : Int)]) rfl (rfl) HR6.out (two_one) (by unfold maxLen; omega) (by omega) HO6.out.bel.size ?_; intro v7 w7 ho7 hg7 hvb7; obtain ⟨A7, c7, e7, _⟩ := own_slice ho7; subst e7; have HO7 := h_ (HO6.out.grow (p := (s, z)) (by rw [HNC.out]; exact ho7) hg7); clear ho7 hg7 hvb7))
    rw [← HA.out]
    clear hW6
    go_roundg (n - (k + 1))
    case measure => omega
    case rel => exact ⟨k + 1, A7, n1 + 1, c7, by omega, by omega, rfl, rfl, by first | rfl | exact congrArg (Value.int .i64) (by omega) | go_num, h_ (by rw [HS.out]; exact HO7.out)⟩
 ·obtain rfl : k = n := by omega
  obtain ⟨rest, hrest⟩ := eX (delT ns fr to_)
  have HO1 : Hid (NmOut W1 wr A1 n1 c1 rest) := h_ (by have h := HO.out; rw [List.take_of_length_le (by rw [HN.out]; exact Nat.le_refl _), hrest] at h; exact h)
  have HQ : Hid (q = if to_ = [] then rest else insN (to_, f) rest) := h_ (by rw [← HQ0.out]; unfold doD; rw [hrest])
  have HNT : Hid (∀ p ∈ rest, p.1 ≠ to_) := h_ (fun p hp => delT_mem (by rw [hrest]; exact hp))
  clear hrest HO hlt HT
  by_cases hT : T = ⟨#[]⟩
  ·have hc1 : T.toList.isEmpty = true := by rw [ByteArray.toList_eq, hT]; rfl
   have HF : Hid (q = rest) := h_ (by rw [HQ.out, if_pos (by rw [← HTO.out, hT])])
   clear hT
   go_wp2_with fail
   go_ret
   refine ⟨A1, n1, c1, rfl, ?_⟩
   rw [HF.out]
   exact HO1.out.mono HB1.out
  have hc1 : T.toList.isEmpty = false := by
   rw [ByteArray.toList_eq, HTO.out, List.isEmpty_eq_false_iff]
   exact fun e => hT (ba_ext (by rw [HTO.out, e]))
  have HF : Hid (q = insN (to_, f) rest) := h_ (by rw [HQ.out, if_neg (fun e => hT (ba_ext (by rw [HTO.out, e])))])
  clear hT
  obtain ⟨w2, hw2⟩ : ∃ x, x = wr := ⟨_, rfl⟩
  subst hw2
  obtain ⟨W3, hW3⟩ := eX (w2.alloc (.cells #[] 153))
  obtain ⟨r3, b3, s3⟩ := new_row hW3
  have HO3 : Hid (NmOut w2 W3 (some ⟨w2.heap.size, 0, none⟩) 0 0 []) := h_ ⟨rfl, by rw [← hW3]; exact own_start _ _ (Nat.le_refl _), b3⟩
  have HRR := h_ HO1.out.rd
  have HN1 := h_ HO1.out.len
  have HB2 := h_ HO1.out.bel
  have HRT : Hid (∀ W, Below w2.heap.size w2 W → W.cell? ⟨g, 1, none⟩ = some (.string T) ∧ W.cell? ⟨g, 2, none⟩ = some (.int .i64 (f : Int))) := h_ (fun W hb => by
   have hlt := World.block_lt_of_cell? w2 _ t1
   exact ⟨cell_below t1 hlt hb, cell_below t2 hlt hb⟩)
  clear r3 b3 s3 HO1 hk
  go_wp2_with fail
  clear hW3 t0 t1 t2
  go_loopg [7, 8, 9] (n1 * 1) (fun gk_ ov dv iv wr => ∃ (k : Nat) (dn : Bool) (A2 : Option Addr) (n2 c2 : Nat) (out : NM), k ≤ n1 ∧ n2 ≤ 2 * k ∧ gk_ = n1 - k ∧ ov = .slice A2 n2 c2 ∧ dv = .bool dn ∧ iv = .int .i64 (k : Int) ∧ Hid (NmOut w2 wr A2 n2 c2 out) ∧ Hid (out ++ (if dn = true then rest.drop k else insN (to_, f) (rest.drop k)) = insN (to_, f) rest))
  case atStart => exact ⟨0, false, _, 0, 0, [], by omega, by omega, by omega, rfl, rfl, rfl, HO3, h_ rfl⟩
  case round =>
  clear HO3
  obtain ⟨k, dn, A2, n2, c2, out, hk, hn2, rfl, rfl, rfl, rfl, HO, HE⟩ := hrel
  obtain ⟨t1, t2⟩ := HRT.out _ HO.out.bel
  by_cases hlt : k < n1
  ·have i1 : (k : Int) < (n1 : Int) := by omega
   have hkl : k < rest.length := by rw [← HN1.out]; exact hlt
   obtain ⟨⟨s, z⟩, hp⟩ : ∃ p, rest[k]? = some p := ⟨_, List.getElem?_eq_getElem hkl⟩
   obtain ⟨b, o, hA, hrow⟩ := nm_cell HRR.out hp
   have hne : s ≠ to_ := HNT.out _ (List.mem_of_getElem? hp)
   have hdr : rest.drop k = (s, z) :: rest.drop (k + 1) := by
    rw [List.drop_eq_getElem_cons hkl]
    rw [(List.getElem?_eq_some_iff.1 hp).2]
   have HDR := h_ hdr
   obtain ⟨X, hX, hXs⟩ : ∃ X : ByteArray, strV s = .string X ∧ X.data.toList = s := ⟨_, rfl, rfl⟩
   have HRX : Hid (∀ W, Below w2.heap.size w2 W → W.rangeAt b (o + k * 2) [.string X, .int .i64 (z : Int)]) := h_ (fun W hb => range_below (by rw [← hX]; exact hrow) (World.block_lt_of_cell? w2 _ (hrow 0 _ rfl)) hb)
   have a0 : wr.cell? ⟨b, o + k * 2, none⟩ = some (.string X) := HRX.out _ HO.out.bel 0 _ rfl
   have HNC : Hid (nmC (s, z) = [.string X, .int .i64 (z : Int)]) := h_ (by unfold nmC; rw [hX])
   have HNC2 : Hid (nmC (to_, f) = [.string T, .int .i64 (f : Int)]) := h_ (by
    unfold nmC strV
    rw [show (⟨to_.toArray⟩ : ByteArray) = T from ba_ext (by rw [HTO.out])])
   have hXT : X ≠ T := fun e => hne (by rw [← hXs, e, HTO.out])
   obtain ⟨bf, hbf⟩ := eX (bytesBefore to_ s)
   have hc2 : (X.toList == T.toList) = false := by rw [names_eq, decide_eq_false hXT]
   have hl2 : Op.bytesLess X.toList T.toList = !bf := by
    rw [less_before, ByteArray.toList_eq, ByteArray.toList_eq, hXs, HTO.out, ← hbf]
    rcases WideAt.bytes_total s to_ hne with h | h
    ·rw [h, before_not h]; rfl
    ·rw [h, before_not h]; rfl
   have HBF := h_ hbf
   have HA := h_ hA
   rw [hA]
   clear hp hrow hX hXs hA hkl hne hdr hXT hbf
   cases dn
   ·cases bf
    ·replace hl2 : Op.bytesLess X.toList T.toList = true := hl2
     have HS : Hid ((out ++ [(s, z)]) ++ (if false = true then rest.drop (k + 1) else insN (to_, f) (rest.drop (k + 1))) = insN (to_, f) rest) := h_ (by
      rw [← HE.out, HDR.out, if_neg (by decide), if_neg (by decide)]
      simp [insN, HBF.out])
     go_wp2_with fail
     go_quiet (fail)
     have HO5 := h_ (HO.out.below (below_drewN (Below.refl _ _) nq))
     have HRW5 := h_ (HRX.out _ HO5.out.bel)
     obtain ⟨t1, t2⟩ := HRT.out _ HO5.out.bel
     clear a0 HO
     generalize wr.drewN nq = w5 at *
     obtain ⟨W6, hW6⟩ := eX (w5.alloc (.cells #[.string X, .int .i64 (z : Int)] 153))
     obtain ⟨r6, b6, s6⟩ := new_row hW6
     have HO6 := h_ (HO5.out.below b6)
     have HR6 : Hid (Rd W6 (some ⟨w5.heap.size, 0, none⟩) [.string X, .int .i64 (z : Int)]) := h_ (range_rd (range_of_row (cs := [.string X, .int .i64 (z : Int)]) r6))
     clear r6 b6 s6 HO5
     go_wp2_with (first
      | ((with_reducible (refine wpList_load_cells 153 _ b (o + k * 2) ([.string X, .int .i64 (z : Int)]) HRW5.out Tryz.underlying153 rfl info_nm2 ?_ rfl ?_ ?_)); exact rfl; (exact rfl))
      | (at_builtin; refine wpList_append_rd _ rfl _ _ 50 rfl w2.heap.size 153 _ 2 24 Tryz.underlying50 info_nmz rfl (by decide) (.slice A2 n2 c2) n2 _ rfl HO6.out.own _ 1 _ ([.string X, .int .i64 (z : Int)]) rfl (rfl) HR6.out (two_one) (by unfold maxLen; omega) (by omega) HO6.out.bel.size ?_; intro v7 w7 ho7 hg7 hvb7; obtain ⟨A7, c7, e7, _⟩ := own_slice ho7; subst e7; have HO7 := h_ (HO6.out.grow (p := (s, z)) (by rw [HNC.out]; exact ho7) hg7); clear ho7 hg7 hvb7))
     rw [← HA.out]
     clear hW6
     go_roundg (n1 - (k + 1))
     case measure => omega
     case rel => exact ⟨k + 1, false, A7, n2 + 1, c7, out ++ [(s, z)], by omega, by omega, rfl, rfl, rfl, by first | rfl | exact congrArg (Value.int .i64) (by omega) | go_num, HO7, HS⟩
    ·replace hl2 : Op.bytesLess X.toList T.toList = false := hl2
     have HS : Hid ((out ++ [(to_, f)]) ++ [(s, z)] ++ (if true = true then rest.drop (k + 1) else insN (to_, f) (rest.drop (k + 1))) = insN (to_, f) rest) := h_ (by
      rw [← HE.out, HDR.out, if_pos rfl, if_neg (by decide)]
      simp [insN, HBF.out])
     go_wp2_with fail
     go_quiet (fail)
     have HO5 := h_ (HO.out.below (below_drewN (Below.refl _ _) nq))
     have HRW5 := h_ (HRX.out _ HO5.out.bel)
     obtain ⟨t1, t2⟩ := HRT.out _ HO5.out.bel
     clear a0 HO
     generalize wr.drewN nq = w5 at *
     obtain ⟨W6, hW6⟩ := eX (w5.alloc (.cells #[.string T, .int .i64 (f : Int)] 153))
     obtain ⟨r6, b6, s6⟩ := new_row hW6
     have HO6 := h_ (HO5.out.below b6)
     have HR6 : Hid (Rd W6 (some ⟨w5.heap.size, 0, none⟩) [.string T, .int .i64 (f : Int)]) := h_ (range_rd (range_of_row (cs := [.string T, .int .i64 (f : Int)]) r6))
     have HNX : Hid (∀ (A : Option Addr) (c : Nat) (W : World), NmOut w2 W A (n2 + 1) c (out ++ [(to_, f)]) → ∃ W8, Hid (NmOut w2 W8 A (n2 + 1) c (out ++ [(to_, f)])) ∧ W.alloc (.cells #[.string X, .int .i64 (z : Int)] 153) = W8 ∧ Hid (Rd W8 (some ⟨W.heap.size, 0, none⟩) [.string X, .int .i64 (z : Int)])) := h_ (fun A c W h => by
      obtain ⟨W8, hW8⟩ := eX (W.alloc (.cells #[.string X, .int .i64 (z : Int)] 153))
      obtain ⟨r8, b8, s8⟩ := new_row hW8
      exact ⟨W8, h_ (h.below b8), hW8, h_ (range_rd (range_of_row (cs := [.string X, .int .i64 (z : Int)]) r8))⟩)
     clear r6 b6 s6 HO5 HRW5
     go_wp2_with (first
      | (at_builtin; refine wpList_append_rd _ rfl _ _ 50 rfl w2.heap.size 153 _ 2 24 Tryz.underlying50 info_nmz rfl (by decide) (.slice A2 n2 c2) n2 _ rfl HO6.out.own _ 1 _ ([.string T, .int .i64 (f : Int)]) rfl (rfl) HR6.out (two_one) (by unfold maxLen; omega) (by omega) HO6.out.bel.size ?_; intro v7 w7 ho7 hg7 hvb7; obtain ⟨A7, c7, e7, _⟩ := own_slice ho7; subst e7; have HO7 := h_ (HO6.out.grow (p := (to_, f)) (by rw [HNC2.out]; exact ho7) hg7); have HRW7 := h_ (HRX.out _ HO7.out.bel); obtain ⟨W8, HO8, hW8, HR8⟩ := HNX.out _ _ _ HO7.out; clear ho7 hg7 hvb7)
      | ((with_reducible (refine wpList_load_cells 153 _ b (o + k * 2) ([.string X, .int .i64 (z : Int)]) HRW7.out Tryz.underlying153 rfl info_nm2 ?_ rfl ?_ ?_)); exact rfl; (exact rfl))
      | (at_builtin; refine wpList_append_rd _ rfl _ _ 50 rfl w2.heap.size 153 _ 2 24 Tryz.underlying50 info_nmz rfl (by decide) (.slice A7 (n2 + 1) c7) (n2 + 1) _ rfl HO8.out.own _ 1 _ ([.string X, .int .i64 (z : Int)]) rfl (rfl) HR8.out (two_one) (by unfold maxLen; omega) (by omega) HO8.out.bel.size ?_; intro v9 w9 ho9 hg9 hvb9; obtain ⟨A9, c9, e9, _⟩ := own_slice ho9; subst e9; have HO9 := h_ (HO8.out.grow (p := (s, z)) (by rw [HNC.out]; exact ho9) hg9); clear ho9 hg9 hvb9))
     rw [← HA.out]
     clear hW6 hW8
     go_roundg (n1 - (k + 1))
     case measure => omega
     case rel => exact ⟨k + 1, true, A9, n2 + 1 + 1, c9, (out ++ [(to_, f)]) ++ [(s, z)], by omega, by omega, rfl, rfl, rfl, by first | rfl | exact congrArg (Value.int .i64) (by omega) | go_num, HO9, HS⟩
   ·have HS : Hid ((out ++ [(s, z)]) ++ (if true = true then rest.drop (k + 1) else insN (to_, f) (rest.drop (k + 1))) = insN (to_, f) rest) := h_ (by
     rw [← HE.out, HDR.out, if_pos rfl, if_pos rfl]
     simp)
    go_wp2_with fail
    go_quiet (fail)
    have HO5 := h_ (HO.out.below (below_drewN (Below.refl _ _) nq))
    have HRW5 := h_ (HRX.out _ HO5.out.bel)
    obtain ⟨t1, t2⟩ := HRT.out _ HO5.out.bel
    clear a0 HO
    generalize wr.drewN nq = w5 at *
    obtain ⟨W6, hW6⟩ := eX (w5.alloc (.cells #[.string X, .int .i64 (z : Int)] 153))
    obtain ⟨r6, b6, s6⟩ := new_row hW6
    have HO6 := h_ (HO5.out.below b6)
    have HR6 : Hid (Rd W6 (some ⟨w5.heap.size, 0, none⟩) [.string X, .int .i64 (z : Int)]) := h_ (range_rd (range_of_row (cs := [.string X, .int .i64 (z : Int)]) r6))
    clear r6 b6 s6 HO5
    go_wp2_with (first
     | ((with_reducible (refine wpList_load_cells 153 _ b (o + k * 2) ([.string X, .int .i64 (z : Int)]) HRW5.out Tryz.underlying153 rfl info_nm2 ?_ rfl ?_ ?_)); exact rfl; (exact rfl))
     | (at_builtin; refine wpList_append_rd _ rfl _ _ 50 rfl w2.heap.size 153 _ 2 24 Tryz.underlying50 info_nmz rfl (by decide) (.slice A2 n2 c2) n2 _ rfl HO6.out.own _ 1 _ ([.string X, .int .i64 (z : Int)]) rfl (rfl) HR6.out (two_one) (by unfold maxLen; omega) (by omega) HO6.out.bel.size ?_; intro v7 w7 ho7 hg7 hvb7; obtain ⟨A7, c7, e7, _⟩ := own_slice ho7; subst e7; have HO7 := h_ (HO6.out.grow (p := (s, z)) (by rw [HNC.out]; exact ho7) hg7); clear ho7 hg7 hvb7))
    rw [← HA.out]
    clear hW6
    go_roundg (n1 - (k + 1))
    case measure => omega
    case rel => exact ⟨k + 1, true, A7, n2 + 1, c7, out ++ [(s, z)], by omega, by omega, rfl, rfl, rfl, by first | rfl | exact congrArg (Value.int .i64) (by omega) | go_num, HO7, HS⟩
  ·obtain rfl : k = n1 := by omega
   have hdr : rest.drop k = [] := List.drop_eq_nil_of_le (by rw [← HN1.out]; exact Nat.le_refl _)
   cases dn
   ·have HE2 : Hid (out ++ [(to_, f)] = q) := h_ (by have h := HE.out; rw [hdr] at h; rw [HF.out, ← h]; rfl)
    obtain ⟨W6, hW6⟩ := eX (wr.alloc (.cells #[.string T, .int .i64 (f : Int)] 153))
    obtain ⟨r6, b6, s6⟩ := new_row hW6
    have HO6 := h_ (HO.out.below b6)
    have HR6 : Hid (Rd W6 (some ⟨wr.heap.size, 0, none⟩) [.string T, .int .i64 (f : Int)]) := h_ (range_rd (range_of_row (cs := [.string T, .int .i64 (f : Int)]) r6))
    have HNC2 : Hid (nmC (to_, f) = [.string T, .int .i64 (f : Int)]) := h_ (by
     unfold nmC strV
     rw [show (⟨to_.toArray⟩ : ByteArray) = T from ba_ext (by rw [HTO.out])])
    clear r6 b6 s6 hdr HE HO
    go_wp2_with ((at_builtin; refine wpList_append_rd _ rfl _ _ 50 rfl w2.heap.size 153 _ 2 24 Tryz.underlying50 info_nmz rfl (by decide) (.slice A2 n2 c2) n2 _ rfl HO6.out.own _ 1 _ ([.string T, .int .i64 (f : Int)]) rfl (rfl) HR6.out (two_one) (by unfold maxLen; omega) (by omega) HO6.out.bel.size ?_; intro v7 w7 ho7 hg7 hvb7; obtain ⟨A7, c7, e7, _⟩ := own_slice ho7; subst e7; have HO7 := h_ (HO6.out.grow (p := (to_, f)) (by rw [HNC2.out]; exact ho7) hg7); clear ho7 hg7 hvb7))
    go_ret
    refine ⟨A7, n2 + 1, c7, rfl, ?_⟩
    rw [← HE2.out]
    exact (HO7.out.mono HB2.out).mono HB1.out
   ·have HE2 : Hid (out = q) := h_ (by have h := HE.out; rw [hdr] at h; rw [HF.out, ← h]; simp)
    clear hdr HE
    go_wp2_with fail
    go_ret
    refine ⟨A2, n2, c2, rfl, ?_⟩
    rw [← HE2.out]
    exact (HO.out.mono HB2.out).mono HB1.out
structure LOut {α : Type} (T : TypeId) (sz : Nat) (f : α → List Value) (w0 w : World) (A : Option Addr) (n c : Nat) (xs : List α) : Prop where
 len : n = xs.length
 own : w.ownsRow w0.heap.size T sz (.slice A n c) n (xs.flatMap f)
 bel : Below w0.heap.size w0 w
section
variable {α : Type} {T : TypeId} {sz : Nat} {f : α → List Value} {w0 w1 w w' : World} {A A' : Option Addr} {n c c' : Nat} {xs : List α} {x : α}
theorem LOut.grow (h : LOut T sz f w0 w A n c xs) (ho : w'.ownsRow w0.heap.size T sz (.slice A' (n + 1) c') (n + 1) (xs.flatMap f ++ f x)) (hg : w.grownBy w' (Value.slice A n c).ownBlock) : LOut T sz f w0 w' A' (n + 1) c' (xs ++ [x]) := by
 refine ⟨by rw [List.length_append, ← h.len]; rfl, ?_, ?_⟩
 ·rw [List.flatMap_append, show [x].flatMap f = f x from by simp]
  exact ho
 ·exact below_grown_own h.bel h.own hg h.bel.size
theorem LOut.below (h : LOut T sz f w0 w A n c xs) (hb : Below w.heap.size w w') : LOut T sz f w0 w' A n c xs := ⟨h.len, own_below h.own hb, ext_trans h.bel hb⟩
theorem LOut.rd (h : LOut T sz f w0 w A n c xs) : Rd w A (xs.flatMap f) := own_rd h.own
theorem LOut.mono (h : LOut T sz f w1 w A n c xs) (hb : Below w0.heap.size w0 w1) : LOut T sz f w0 w A n c xs := ⟨h.len, own_mono h.own hb.size, hb.trans (h.bel.mono hb.size)⟩
theorem LOut.start (T : TypeId) (sz : Nat) (f : α → List Value) (hb : Below w0.heap.size w0 w) : LOut T sz f w0 (w.alloc (.cells #[] T)) (some ⟨w.heap.size, 0, none⟩) 0 0 [] := ⟨rfl, own_start _ _ hb.size, ext_trans hb ((Below.refl _ _).alloc (Nat.le_refl _) _)⟩
theorem LOut.addr (h : LOut T sz f w0 w A n c xs) : ∀ a, A = some a → w0.heap.size ≤ a.block := fun a e => by
 obtain ⟨A2, c2, e2, _, _, h2, _⟩ := own_slice h.own
 cases e2
 exact (h2 a e).1
end
theorem NmOut.addr {w0 w : World} {A : Option Addr} {n c : Nat} {ns : NM} (h : NmOut w0 w A n c ns) : ∀ a, A = some a → w0.heap.size ≤ a.block := fun a e => by
 obtain ⟨A2, c2, e2, _, _, h2, _⟩ := own_slice h.own
 cases e2
 exact (h2 a e).1
theorem info_fl2 {a b : Value} : (Tryz.prog.info? 105).map (·.size) = some ([a, b] : List Value).length := by kernel_rfl
theorem info_flz : (Tryz.prog.info? 105).map (fun i => (i.zero, i.size, i.bytes)) = some (some (.agg #[.slice none 0 0, .int .i64 0]), 2, 32) := by kernel_rfl
theorem info_fls : (Tryz.prog.info? 105).map (·.size) = some 2 := by kernel_rfl
theorem info_tn3 {a b c : Value} : (Tryz.prog.info? 103).map (·.size) = some ([a, b, c] : List Value).length := by kernel_rfl
theorem info_tnz : (Tryz.prog.info? 103).map (fun i => (i.zero, i.size, i.bytes)) = some (some (.agg #[.string ⟨#[]⟩, .string ⟨#[]⟩, .int .i64 0]), 3, 40) := by kernel_rfl
theorem fl_one (p : PV × Nat) : ∀ u ∈ fileC p, u.oneCell' = true := by
 intro u hu
 simp only [fileC, PV.v, List.mem_cons, List.not_mem_nil, or_false] at hu
 rcases hu with rfl | rfl <;> rfl
theorem tn_one (t : TM) : ∀ u ∈ turnR t, u.oneCell' = true := by
 intro u hu
 simp only [turnR, strV, List.mem_cons, List.not_mem_nil, or_false] at hu
 rcases hu with rfl | rfl | rfl <;> rfl
set_option maxRecDepth 100000 in
set_option maxHeartbeats 8000000 in
theorem rwith_any (A : Option Addr) (fs : List (PV × Nat)) (n c : Nat) (hn : fs.length = n) (hnl : n ≤ 1000) (j : Nat) (p : PV × Nat) (w : World) (hr : Rd w A (filesC fs)) :
  Calls Tryz.prog 45 #[.slice A n c, .int .i64 (j : Int), .agg (fileC p).toArray] w fun e w' => ∃ A' c', e = .returned (.slice A' n c') ∧ LOut 105 2 fileC w w' A' n c' (fs.set j p) := by
 have HN := h_ hn
 obtain ⟨u, z, hp⟩ : ∃ u z, fileC p = [u, .int .i64 z] := ⟨_, _, rfl⟩
 have HP := h_ hp
 have HP1 : Hid (∀ v ∈ [u, Value.int .i64 z], v.oneCell' = true) := h_ (by rw [← hp]; exact fl_one p)
 obtain ⟨W1, hW1⟩ := eX (w.alloc (.cells #[u, .int .i64 z] 105))
 obtain ⟨r1, b1, s1⟩ := new_row hW1
 obtain ⟨W2, hW2⟩ := eX (W1.alloc (.cells #[] 105))
 have HR := h_ (hr.below b1)
 have HB1 := h_ b1
 have HO : Hid (LOut 105 2 fileC W1 W2 (some ⟨W1.heap.size, 0, none⟩) 0 0 []) := h_ (by rw [← hW2]; exact LOut.start _ _ _ (Below.refl _ _))
 obtain ⟨g, hg⟩ := eX w.heap.size
 rw [hg] at r1
 have HT : Hid (∀ W, Below W1.heap.size W1 W → W.heap[g]? = some (.cells #[u, .int .i64 z] 105 (0, 0))) := h_ (fun W hb => (hb.block _ (by omega)).trans r1)
 rw [hp]
 clear hn hr r1 b1 s1 hp
 go_enter Tryz.func45, Tryz.ntmps45
 go_wp2_with fail
 try rw [hg]
 clear hg hW1 hW2
 go_loopg [7, 8] (n * 1) (fun gk_ ov iv wr => ∃ (k : Nat) (A1 : Option Addr) (c1 : Nat), k ≤ n ∧ gk_ = n - k ∧ ov = .slice A1 k c1 ∧ iv = .int .i64 (k : Int) ∧ Hid (LOut 105 2 fileC W1 wr A1 k c1 ((fs.set j p).take k)))
 case atStart => exact ⟨0, _, 0, by omega, by omega, rfl, rfl, HO⟩
 case round =>
 clear HO
 obtain ⟨k, A1, c1, hk, rfl, rfl, rfl, HO⟩ := hrel
 have hT := HT.out _ HO.out.bel
 by_cases hlt : k < n
 ·have i1 : (k : Int) < (n : Int) := by omega
  have hkl : k < fs.length := by rw [HN.out]; exact hlt
  by_cases hkj : k = j
  ·have z1 : ((k : Int) == (j : Int)) = true := by rw [beq_iff_eq]; omega
   have HS : Hid ((fs.set j p).take (k + 1) = (fs.set j p).take k ++ [p]) := h_ (by
    rw [List.take_add_one]
    congr 1
    subst hkj
    simp [hkl])
   obtain ⟨W6, hW6⟩ := eX (wr.alloc (.cells #[u, .int .i64 z] 105))
   obtain ⟨r6, b6, s6⟩ := new_row hW6
   have HO6 := h_ (HO.out.below b6)
   have HR6 : Hid (Rd W6 (some ⟨wr.heap.size, 0, none⟩) [u, .int .i64 z]) := h_ (range_rd (range_of_row (cs := [u, .int .i64 z]) r6))
   clear r6 b6 s6 HO hkl hkj
   go_wp2_with (first
    | (refine wpList_load_row rfl _ _ rfl _ rfl _ _ _ _ hT Tryz.underlying105 rfl info_fls ?_)
    | (at_builtin; refine wpList_append_rd _ rfl _ _ 49 rfl W1.heap.size 105 _ 2 32 Tryz.underlying49 info_flz rfl (by decide) (.slice A1 k c1) k _ rfl HO6.out.own _ 1 _ ([u, .int .i64 z]) rfl (rfl) HR6.out (HP1.out) (by unfold maxLen; omega) (by omega) HO6.out.bel.size ?_; intro v7 w7 ho7 hg7 hvb7; obtain ⟨A7, c7, e7, _⟩ := own_slice ho7; subst e7; have HO7 := h_ (HO6.out.grow (x := p) (by rw [HP.out]; exact ho7) hg7); clear ho7 hg7 hvb7))
   clear hW6
   go_roundg (n - (k + 1))
   case measure => omega
   case rel => exact ⟨k + 1, A7, c7, by omega, rfl, rfl, by first | rfl | exact congrArg (Value.int .i64) (by omega) | go_num, h_ (by rw [HS.out]; exact HO7.out)⟩
  ·have z1 : ((k : Int) == (j : Int)) = false := by rw [beq_eq_false_iff_ne]; omega
   obtain ⟨x, hx⟩ := eX (fs[k])
   have HS : Hid ((fs.set j p).take (k + 1) = (fs.set j p).take k ++ [x]) := h_ (by
    rw [List.take_add_one]
    congr 1
    rw [List.getElem?_set_ne (Ne.symm hkj), List.getElem?_eq_getElem hkl, hx]
    rfl)
   obtain ⟨b, o, hA, _⟩ := HR.out.all (by rw [filesC_len]; omega)
   have hrow := rd_flat (f := fileC) (m := 2) (by have := HR.out.below HO.out.bel; rw [hA] at this; exact this) (fun _ _ => rfl) k hkl
   rw [hx] at hrow
   obtain ⟨v, y, hv⟩ : ∃ v y, fileC x = [v, .int .i64 y] := ⟨_, _, rfl⟩
   have HV := h_ hv
   have HV1 : Hid (∀ t ∈ [v, Value.int .i64 y], t.oneCell' = true) := h_ (by rw [← hv]; exact fl_one x)
   rw [hv] at hrow
   have HRW := h_ hrow
   have HA := h_ hA
   rw [hA]
   obtain ⟨W6, hW6⟩ := eX (wr.alloc (.cells #[v, .int .i64 y] 105))
   obtain ⟨r6, b6, s6⟩ := new_row hW6
   have HO6 := h_ (HO.out.below b6)
   have HR6 : Hid (Rd W6 (some ⟨wr.heap.size, 0, none⟩) [v, .int .i64 y]) := h_ (range_rd (range_of_row (cs := [v, .int .i64 y]) r6))
   clear r6 b6 s6 HO hkl hkj hx hv hrow hA hT
   go_wp2_with (first
    | ((with_reducible (refine wpList_load_cells 105 _ b (o + k * 2) ([v, .int .i64 y]) HRW.out Tryz.underlying105 rfl info_fl2 ?_ rfl ?_ ?_)); exact rfl; (exact rfl))
    | (at_builtin; refine wpList_append_rd _ rfl _ _ 49 rfl W1.heap.size 105 _ 2 32 Tryz.underlying49 info_flz rfl (by decide) (.slice A1 k c1) k _ rfl HO6.out.own _ 1 _ ([v, .int .i64 y]) rfl (rfl) HR6.out (HV1.out) (by unfold maxLen; omega) (by omega) HO6.out.bel.size ?_; intro v7 w7 ho7 hg7 hvb7; obtain ⟨A7, c7, e7, _⟩ := own_slice ho7; subst e7; have HO7 := h_ (HO6.out.grow (x := x) (by rw [HV.out]; exact ho7) hg7); clear ho7 hg7 hvb7))
   rw [← HA.out]
   clear hW6
   go_roundg (n - (k + 1))
   case measure => omega
   case rel => exact ⟨k + 1, A7, c7, by omega, rfl, rfl, by first | rfl | exact congrArg (Value.int .i64) (by omega) | go_num, h_ (by rw [HS.out]; exact HO7.out)⟩
 ·obtain rfl : k = n := by omega
  have HF : Hid ((fs.set j p).take k = fs.set j p) := h_ (List.take_of_length_le (by rw [List.length_set, HN.out]; exact Nat.le_refl _))
  go_wp2_with fail
  go_ret
  refine ⟨A1, c1, rfl, ?_⟩
  have h := HO.out
  rw [HF.out] at h
  exact h.mono HB1.out
theorem info_dk7 {a b c d e f g : Value} : (Tryz.prog.info? 53).map (·.size) = some (#[a, b, c, d, e, f, g] : Array Value).size := by kernel_rfl
theorem cells7 {A B C D : Option Addr} {a b c d a' b' c' d' : Nat} {x y : Int} {z : Bool} : (#[.slice A a a', .slice B b b', .slice C c c', .slice D d d', .int .i64 x, .int .i64 y, .bool z] : Array Value).all (·.oneCell') = true := by simp [Value.oneCell']
theorem RdF.wide {F G : Nat → Prop} {w : World} {A : Option Addr} {cs : List Value} (h : RdF F w A cs) (hG : ∀ b, G b → F b ∨ w.heap.size ≤ b) : RdF G w A cs := by
 refine ⟨h.1, fun hn a ha hg => ?_⟩
 rcases hG _ hg with h1 | h1
 ·exact h.2 hn a ha h1
 ·obtain ⟨b, o, hA, _⟩ := h.1.all (List.length_pos_iff.2 hn)
  rw [hA] at ha
  cases ha
  have hr := h.1
  rw [hA] at hr
  have := hr.lt (List.length_pos_iff.2 hn)
  dsimp only at h1
  omega
theorem RdF.narrow {F G : Nat → Prop} {w : World} {A : Option Addr} {cs : List Value} (h : RdF F w A cs) (hG : ∀ b, G b → F b) : RdF G w A cs := ⟨h.1, fun hn a ha hg => h.2 hn a ha (hG _ hg)⟩
theorem RdF.frm {F G : Nat → Prop} {w w' : World} {A : Option Addr} {cs : List Value} (h : RdF F w A cs) (hf : Frm G w w') (hG : ∀ b, G b → F b) : RdF F w' A cs := by
 by_cases hc : cs = []
 ·rw [hc]; exact RdF.nil
 ·refine ⟨h.1.keep (fun ad e hl => hf.block _ hl (fun hg => h.2 hc ad e (hG _ hg))), h.2⟩
section
variable {F G : Nat → Prop} {w w' : World} {R : RA} {m : DM}
theorem RIn.wide (h : RIn F w R m) (hG : ∀ b, G b → F b ∨ w.heap.size ≤ b) : RIn G w R m :=
 ⟨h.fm, h.rf.wide hG, fun p hp => ⟨(h.rb p hp).1.wide hG, (h.rb p hp).2⟩, h.rn.wide hG, h.rs.wide hG, h.rt.wide hG⟩
theorem RIn.narrow (h : RIn F w R m) (hG : ∀ b, G b → F b) : RIn G w R m :=
 ⟨h.fm, h.rf.narrow hG, fun p hp => ⟨(h.rb p hp).1.narrow hG, (h.rb p hp).2⟩, h.rn.narrow hG, h.rs.narrow hG, h.rt.narrow hG⟩
theorem RIn.frm (h : RIn F w R m) (hf : Frm G w w') (hG : ∀ b, G b → F b) : RIn F w' R m :=
 ⟨h.fm, h.rf.frm hf hG, fun p hp => ⟨(h.rb p hp).1.frm hf hG, (h.rb p hp).2⟩, h.rn.frm hf hG, h.rs.frm hf hG, h.rt.frm hf hG⟩
end
theorem fresh_rdf {F : Nat → Prop} {w w' : World} {A : Option Addr} {cs : List Value} (h : Rd w' A cs) (hf : ∀ a, A = some a → w.heap.size ≤ a.block) (hF : ∀ b, F b → b < w.heap.size) : RdF F w' A cs := RdF.fresh h hf hF
def R0 : RA := ⟨[], none, 0, none, 0, none, 0, none, 0⟩
theorem rin_new (F : Nat → Prop) (w : World) (n : Int) : RIn F w R0 (newM n) := ⟨rfl, RdF.nil, fun p hp => (by cases hp), RdF.nil, RdF.nil, RdF.nil⟩
set_option maxHeartbeats 4000000 in
theorem rnew_any (room : Int) (w : World) : Calls Tryz.prog 17 #[.int .i64 room] w fun e w' => e = .returned (R0.val (newM room)) ∧ Below w.heap.size w w' := by
 obtain ⟨q, hq⟩ : ∃ q : Int, ((newM room).most : Int) = q := ⟨_, rfl⟩
 have hv : R0.val (newM room) = .agg #[.slice none 0 0, .slice none 0 0, .slice none 0 0, .slice none 0 0, .int .i64 q, .int .i64 0, .bool false] := by rw [← hq]; rfl
 rw [hv]
 obtain ⟨Wa, W5, hWa0, hW5, HTH, HRS, HB5⟩ := row_place (w := w) 53 [.slice none 0 0, .slice none 0 0, .slice none 0 0, .slice none 0 0, .int .i64 0, .int .i64 0, .bool false] [.slice none 0 0, .slice none 0 0, .slice none 0 0, .slice none 0 0, .int .i64 q, .int .i64 0, .bool false] rfl
 have hWa : w.alloc (.cells #[.slice none 0 0, .slice none 0 0, .slice none 0 0, .slice none 0 0, .int .i64 0, .int .i64 0, .bool false] 53) = Wa := hWa0
 clear hWa0
 have HW5 := h_ hW5
 obtain ⟨g, hg⟩ := eX w.heap.size
 rw [hg] at HTH HRS HW5 HB5 ⊢
 clear hW5 hv
 by_cases hr : room < 0
 ·obtain rfl : q = 0 := by rw [← hq]; show (((max room 0).toNat : Nat) : Int) = 0; omega
  clear hq
  go_enter Tryz.func17, Tryz.ntmps17
  go_wp2_with ((with_reducible (refine wpList_store_mid rfl _ _ _ rfl ?_ ?_ ?_ ?_ ?_ ?_ ?_ ?_ ?_)); exact g; exact 0; (exact ([.slice none 0 0, .slice none 0 0, .slice none 0 0, .slice none 0 0, .int .i64 0, .int .i64 0, .bool false]).toArray); exact rfl; exact rfl; exact HTH.out; exact info_dk7; exact cells7; rw [HW5.out])
  exact bodyPost_ret (results_row1 rfl _ _ _ _ _ _ _ rfl HRS.out Tryz.underlying53 rfl info_dk7) rfl ⟨rfl, HB5.out⟩
 ·obtain rfl : q = room := by rw [← hq]; show (((max room 0).toNat : Nat) : Int) = room; omega
  clear hq
  go_enter Tryz.func17, Tryz.ntmps17
  go_wp2_with ((with_reducible (refine wpList_store_mid rfl _ _ _ rfl ?_ ?_ ?_ ?_ ?_ ?_ ?_ ?_ ?_)); exact g; exact 0; (exact ([.slice none 0 0, .slice none 0 0, .slice none 0 0, .slice none 0 0, .int .i64 q, .int .i64 0, .bool false]).toArray); exact rfl; exact rfl; exact HTH.out; exact info_dk7; exact cells7; rw [HW5.out])
  exact bodyPost_ret (results_row1 rfl _ _ _ _ _ _ _ rfl HRS.out Tryz.underlying53 rfl info_dk7) rfl ⟨rfl, HB5.out⟩
theorem findI_none {ns : NM} {s : List UInt8} (h : findN ns s = none) : findI ns s = -1 := by unfold findI; rw [h]
theorem findI_some {ns : NM} {s : List UInt8} {f : Nat} (h : findN ns s = some f) : findI ns s = (f : Int) := by unfold findI; rw [h]
theorem findN_mem {ns : NM} {s : List UInt8} {f : Nat} (h : findN ns s = some f) : ∃ p ∈ ns, p.2 = f := by
 unfold findN at h
 obtain ⟨p, hp, rfl⟩ := Option.map_eq_some_iff.1 h
 exact ⟨p, List.mem_of_find?_eq_some hp, rfl⟩
end Go.Proofs.YtelbofikcpchiaaGreat
