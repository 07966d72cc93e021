/- The document's disk: Do, whole. -/
import Derived.Test.YtelbofikcpchiaaGreatQK
namespace Go.Proofs.YtelbofikcpchiaaGreat
open Go.RowKit
def doM (m : DM) (k : Nat) (a z b : List UInt8) : DM × Int :=
 if k = 1 then createM m a else if k = 2 then appendM m a b else if k = 3 then syncM m a else if k = 4 then renameM m a z else if k = 5 then removeM m a else flushM m
theorem do_wrong (m : DM) (k : Nat) (hk : 1 ≤ k ∧ k ≤ 6) (a z b : List UInt8) (h : wrongM m (k : Int) a z b.length ≠ 0) : doM m k a z b = (m, wrongM m (k : Int) a z b.length) := by
 obtain rfl | rfl | rfl | rfl | rfl | rfl : k = 1 ∨ k = 2 ∨ k = 3 ∨ k = 4 ∨ k = 5 ∨ k = 6 := by omega
 all_goals
  revert h
  simp only [doM, wrongM, createM, appendM, syncM, renameM, removeM, flushM, findM]
  cases m.down <;> cases hna : namedB a <;> cases hnz : namedB z <;> cases hfi : findN m.now a <;> by_cases h4 : 4096 ≤ m.now.length <;> by_cases hr : roomM m < b.length <;> simp [h4, hr]
theorem do_right (m : DM) (k : Nat) (hk : 1 ≤ k ∧ k ≤ 6) (a z b : List UInt8) (h : wrongM m (k : Int) a z b.length = 0) :
  m.down = false ∧ (k = 1 → findN m.now a = none ∧ namedB a = true ∧ ¬ 4096 ≤ m.now.length) ∧ (2 ≤ k → k ≤ 5 → ∃ f, findN m.now a = some f) ∧ (k = 2 → ¬ roomM m < b.length) ∧ (k = 4 → namedB z = true) := by
 obtain rfl | rfl | rfl | rfl | rfl | rfl : k = 1 ∨ k = 2 ∨ k = 3 ∨ k = 4 ∨ k = 5 ∨ k = 6 := by omega
 all_goals
  revert h
  simp only [wrongM]
  cases m.down <;> cases hna : namedB a <;> cases hnz : namedB z <;> cases hfi : findN m.now a <;> by_cases h4 : 4096 ≤ m.now.length <;> by_cases hr : roomM m < b.length <;> simp [h4, hr]
theorem do_fuse (m : DM) (k : Nat) (hk : 1 ≤ k ∧ k ≤ 6) (a z b : List UInt8) (h : wrongM m (k : Int) a z b.length = 0) (hf : m.fuse = 1) : doM m k a z b = ({ m with fuse := 0, down := true }, 50) := by
 have hs : stepM m = ({ m with fuse := 0, down := true }, 50) := by unfold stepM; rw [if_pos (by omega), if_pos hf]
 have ht : ∀ t, turnM m t = ({ m with fuse := 0, down := true }, 50) := fun t => by unfold turnM; rw [hs]; rfl
 obtain ⟨h1, h2, h3, h4, h5⟩ := do_right m k hk a z b h
 obtain rfl | rfl | rfl | rfl | rfl | rfl : k = 1 ∨ k = 2 ∨ k = 3 ∨ k = 4 ∨ k = 5 ∨ k = 6 := by omega
 ·obtain ⟨e1, e2, e3⟩ := h2 rfl
  simp [doM, createM, h1, e1, e2, e3, hs]
 ·obtain ⟨f, e1⟩ := h3 (by omega) (by omega)
  simp [doM, appendM, findM, h1, e1, hs, h4 rfl]
 ·obtain ⟨f, e1⟩ := h3 (by omega) (by omega)
  simp [doM, syncM, findM, h1, e1, hs]
 ·obtain ⟨f, e1⟩ := h3 (by omega) (by omega)
  simp [doM, renameM, findM, h1, e1, ht, h5 rfl]
 ·obtain ⟨f, e1⟩ := h3 (by omega) (by omega)
  simp [doM, removeM, findM, h1, e1, ht]
 ·simp [doM, flushM, h1, hs]
theorem step_no {m : DM} (hf : m.fuse = 0) : stepM m = ({ m with fuse := 0 }, 0) := by
 unfold stepM
 rw [if_neg (by omega)]
 obtain ⟨a, b, c, d, e, f, g⟩ := m
 simp only at hf
 subst hf
 rfl
theorem step_yes {m : DM} {x : Nat} (hf : m.fuse = x + 2) : stepM m = ({ m with fuse := x + 1 }, 0) := by
 unfold stepM
 rw [if_pos (by omega), if_neg (by omega), hf]
 rfl
set_option linter.unusedSectionVars false
section
variable {m : DM} {k : Nat} {a z b : List UInt8} {φ : Nat} {f : Nat}
theorem do_kinds (hs : stepM m = ({ m with fuse := φ }, 0)) (hs1 : stepM { m with files := m.files ++ [(⟨[], 0⟩ : FM)] } = ({ m with fuse := φ, files := m.files ++ [(⟨[], 0⟩ : FM)] }, 0)) (hd : m.down = false) :
  (findN m.now a = none → namedB a = true → ¬ 4096 ≤ m.now.length → doM m 1 a z b = ({ m with fuse := φ, files := m.files ++ [(⟨[], 0⟩ : FM)], now := doN m.now ⟨[], a, m.files.length⟩, turns := m.turns ++ [(⟨[], a, m.files.length⟩ : TM)] }, 0)) ∧
  (findN m.now a = some f → ¬ roomM m < b.length → doM m 2 a z b = (setF { m with fuse := φ } f ⟨(fileM m f).b ++ b, (fileM m f).safe⟩, 0)) ∧
  (findN m.now a = some f → doM m 3 a z b = (setF { m with fuse := φ } f ⟨(fileM m f).b, (fileM m f).b.length⟩, 0)) ∧
  (findN m.now a = some f → namedB z = true → doM m 4 a z b = ({ m with fuse := φ, now := doN m.now ⟨a, z, f⟩, turns := m.turns ++ [(⟨a, z, f⟩ : TM)] }, 0)) ∧
  (findN m.now a = some f → doM m 5 a z b = ({ m with fuse := φ, now := doN m.now ⟨a, [], f⟩, turns := m.turns ++ [(⟨a, [], f⟩ : TM)] }, 0)) ∧
  doM m 6 a z b = ({ m with fuse := φ, sure := m.now, turns := [] }, 0) := by
 refine ⟨fun h1 h2 h3 => ?_, fun h1 h2 => ?_, fun h1 => ?_, fun h1 h2 => ?_, fun h1 => ?_, ?_⟩
 ·show createM m a = _
  unfold createM
  rw [if_neg (by simp [hd]), if_neg (by simp [h2]), if_neg (by simp [h1]), if_neg h3, if_pos (by rw [hs])]
  unfold turnM
  rw [hs1]
  rfl
 ·simp [doM, appendM, findM, hd, h1, h2, hs]
 ·simp [doM, syncM, findM, hd, h1, hs]
 ·simp [doM, renameM, findM, hd, h1, h2, turnM, hs]
 ·simp [doM, removeM, findM, hd, h1, turnM, hs]
 ·simp [doM, flushM, hd, hs]
end
theorem rDo_any {K L : Nat} {F : Nat → Prop} (R : RA) (m : DM) (S Z : ByteArray) (Ab : Option Addr) (nb cb : Nat) (bs : List UInt8) (w : World) (h : RIn F w R m) (hF : ∀ b, F b → b < w.heap.size) (hf : Fit K L m) (hK : K ≤ 998) (hL : L ≤ 999999) (hnb : nb = bs.length ∧ nb ≤ 1000000) (hbs : Rd w Ab (b8s bs))
  (hne : ∀ p ∈ m.now, p.1 ≠ []) (k : Nat) (hk : 1 ≤ k ∧ k ≤ 6) (m' : DM) (e' : Int) (he : doM m k S.data.toList Z.data.toList bs = (m', e')) :
  Calls Tryz.prog 18 #[R.val m, .agg #[.int .i64 (k : Int), .string S, .string Z, .slice Ab nb cb]] w fun e w' => ∃ R' : RA, e = .returned (.tuple #[R'.val m', .int .i64 e']) ∧ RIn F w' R' m' ∧ Below w.heap.size w w' := by
 obtain ⟨hnb1, hnb2⟩ := hnb
 subst hnb1
 by_cases hw : wrongM m (k : Int) S.data.toList Z.data.toList bs.length = 0
 ·obtain ⟨h1, h2, h3, h4, h5⟩ := do_right m k hk _ _ bs hw
  by_cases hfu : m.fuse = 1
  ·rw [do_fuse m k hk _ _ bs hw hfu] at he
   cases he
   exact (rdo_fuse R m S Z Ab bs.length cb bs w h hF hf hK hL ⟨rfl, hnb2⟩ hbs k hk hw h1 hfu).mono fun e w' ⟨e1, e2⟩ => ⟨R, e1, (h.below e2).same rfl rfl rfl rfl, e2⟩
  by_cases hf0 : m.fuse = 0
  ·have hs := step_no hf0
   have hs1 : stepM { m with files := m.files ++ [(⟨[], 0⟩ : FM)] } = ({ m with fuse := 0, files := m.files ++ [(⟨[], 0⟩ : FM)] }, 0) := step_no (m := { m with files := m.files ++ [(⟨[], 0⟩ : FM)] }) hf0
   obtain rfl | rfl | rfl | rfl | rfl | rfl : k = 1 ∨ k = 2 ∨ k = 3 ∨ k = 4 ∨ k = 5 ∨ k = 6 := by omega
   ·obtain ⟨e1, e2, e3⟩ := h2 rfl
    rw [(do_kinds (f := 0) hs hs1 h1).1 e1 e2 e3] at he
    cases he
    exact rdo1n R m S Z Ab bs.length cb bs w h hF hf hK hL ⟨rfl, hnb2⟩ hbs hw h1 hf0 e1 hne
   ·obtain ⟨f, e1⟩ := h3 (by omega) (by omega)
    rw [(do_kinds hs hs1 h1).2.1 e1 (h4 rfl)] at he
    cases he
    exact rdo2n R m S Z Ab bs.length cb bs w h hF hf hK hL ⟨rfl, hnb2⟩ hbs hw h1 hf0 f e1
   ·obtain ⟨f, e1⟩ := h3 (by omega) (by omega)
    rw [(do_kinds hs hs1 h1).2.2.1 e1] at he
    cases he
    exact rdo3n R m S Z Ab bs.length cb bs w h hF hf hK hL ⟨rfl, hnb2⟩ hbs hw h1 hf0 f e1
   ·obtain ⟨f, e1⟩ := h3 (by omega) (by omega)
    rw [(do_kinds hs hs1 h1).2.2.2.1 e1 (h5 rfl)] at he
    cases he
    exact rdo4n R m S Z Ab bs.length cb bs w h hF hf hK hL ⟨rfl, hnb2⟩ hbs hw h1 hf0 f e1 hne
   ·obtain ⟨f, e1⟩ := h3 (by omega) (by omega)
    rw [(do_kinds hs hs1 h1).2.2.2.2.1 e1] at he
    cases he
    exact rdo5n R m S Z Ab bs.length cb bs w h hF hf hK hL ⟨rfl, hnb2⟩ hbs hw h1 hf0 f e1 hne
   ·rw [(do_kinds (f := 0) hs hs1 h1).2.2.2.2.2] at he
    cases he
    exact rdo6n R m S Z Ab bs.length cb bs w h hF hf hK hL ⟨rfl, hnb2⟩ hbs hw h1 hf0
  ·obtain ⟨x, hx⟩ : ∃ x, m.fuse = x + 2 := ⟨m.fuse - 2, by omega⟩
   have hs := step_yes hx
   have hs1 : stepM { m with files := m.files ++ [(⟨[], 0⟩ : FM)] } = ({ m with fuse := x + 1, files := m.files ++ [(⟨[], 0⟩ : FM)] }, 0) := step_yes (m := { m with files := m.files ++ [(⟨[], 0⟩ : FM)] }) hx
   obtain rfl | rfl | rfl | rfl | rfl | rfl : k = 1 ∨ k = 2 ∨ k = 3 ∨ k = 4 ∨ k = 5 ∨ k = 6 := by omega
   ·obtain ⟨e1, e2, e3⟩ := h2 rfl
    rw [(do_kinds (f := 0) hs hs1 h1).1 e1 e2 e3] at he
    cases he
    exact rdo1f R m S Z Ab bs.length cb bs w h hF hf hK hL ⟨rfl, hnb2⟩ hbs hw h1 x hx e1 hne
   ·obtain ⟨f, e1⟩ := h3 (by omega) (by omega)
    rw [(do_kinds hs hs1 h1).2.1 e1 (h4 rfl)] at he
    cases he
    exact rdo2f R m S Z Ab bs.length cb bs w h hF hf hK hL ⟨rfl, hnb2⟩ hbs hw h1 x hx f e1
   ·obtain ⟨f, e1⟩ := h3 (by omega) (by omega)
    rw [(do_kinds hs hs1 h1).2.2.1 e1] at he
    cases he
    exact rdo3f R m S Z Ab bs.length cb bs w h hF hf hK hL ⟨rfl, hnb2⟩ hbs hw h1 x hx f e1
   ·obtain ⟨f, e1⟩ := h3 (by omega) (by omega)
    rw [(do_kinds hs hs1 h1).2.2.2.1 e1 (h5 rfl)] at he
    cases he
    exact rdo4f R m S Z Ab bs.length cb bs w h hF hf hK hL ⟨rfl, hnb2⟩ hbs hw h1 x hx f e1 hne
   ·obtain ⟨f, e1⟩ := h3 (by omega) (by omega)
    rw [(do_kinds hs hs1 h1).2.2.2.2.1 e1] at he
    cases he
    exact rdo5f R m S Z Ab bs.length cb bs w h hF hf hK hL ⟨rfl, hnb2⟩ hbs hw h1 x hx f e1 hne
   ·rw [(do_kinds (f := 0) hs hs1 h1).2.2.2.2.2] at he
    cases he
    exact rdo6f R m S Z Ab bs.length cb bs w h hF hf hK hL ⟨rfl, hnb2⟩ hbs hw h1 x hx
 ·rw [do_wrong m k hk _ _ bs hw] at he
  cases he
  exact (rdo_err R m S Z Ab bs.length cb bs w h hF hf hK hL ⟨rfl, hnb2⟩ hbs k hk _ rfl hw).mono fun e w' ⟨e1, e2⟩ => ⟨R, e1, h.below e2, e2⟩
end Go.Proofs.YtelbofikcpchiaaGreat
