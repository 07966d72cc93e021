/- Refs: the turns of RefsKeeps. (With the texts that it stands on.) -/
import Derived.Test.YtelbofikcpchiaaGreatRf32
import Derived.Test.YtelbofikcpchiaaGreatRf33
import Derived.Test.YtelbofikcpchiaaGreatQH
namespace Go.Proofs.YtelbofikcpchiaaGreat
set_option maxRecDepth 100000
def kT (old new : List UInt8) : TxM := tx1 ⟨mainB, old, new⟩
set_option maxRecDepth 100000
structure KR (r : RfM) (prev : List UInt8) (n : Nat) : Prop where
 get : getA r.all mainB = prev
 log : r.log.length = n
 al : r.all.length ≤ n
 st : r.stuck = false
 ok : RfOk r
theorem KR.zero : KR rf0 Z32 0 := ⟨rfl, rfl, Nat.le_refl _, rfl, rf0_ok0⟩
theorem kT_ok {old new : List UInt8} (ho : old.length = 32) (hn : new.length = 32) : TxOk (kT old new) := tx1_ok ⟨ho, hn, by show mainB.length ≤ _; decide⟩
theorem main_valid : validB mainB = true := by decide +kernel
theorem KR.check {r : RfM} {prev new : List UInt8} {n : Nat} (h : KR r prev n) : checkR r (kT prev new) = 0 := by
 unfold checkR
 have e1 : (kT prev new).us = [⟨mainB, prev, new⟩] := rfl
 have e2 : (kT prev new).head = [] := rfl
 rw [e1, e2, if_neg (by simp)]
 have e3 : chkUs r.all [] [⟨mainB, prev, new⟩] = 0 := by
  have e4 : chkU r.all [] ⟨mainB, prev, new⟩ = 0 := by
   unfold chkU
   rw [if_neg (by rw [main_valid]; decide), if_neg (by simp), if_neg (by simp [h.get])]
  show (if chkU r.all [] ⟨mainB, prev, new⟩ = 0 then chkUs r.all ([] ++ [mainB]) [] else chkU r.all [] ⟨mainB, prev, new⟩) = 0
  rw [if_pos e4]
  rfl
 rw [e3, if_neg (by simp), if_neg (by simp)]
theorem KR.make {r : RfM} {prev new : List UInt8} {n : Nat} (h : KR r prev n) (ho : prev.length = 32) (hn : new.length = 32) : KR (makeR r (kT prev new)) new (n + 1) := by
 refine ⟨?_, ?_, ?_, h.st, makeR_ok h.ok (kT_ok ho hn)⟩
 ·show getA (updA r.all ⟨mainB, prev, new⟩) mainB = new
  unfold updA getA
  by_cases hz : new = Z32
  ·rw [if_pos hz, findA_del, if_pos rfl, hz]
   rfl
  ·rw [if_neg hz, findA_put, if_pos rfl]
   rfl
 ·show (r.log ++ (kT prev new).us).length = n + 1
  rw [List.length_append, h.log]
  rfl
 ·have h1 := makeR_all r (kT prev new)
  have h2 : (kT prev new).us.length = 1 := rfl
  have := h.al
  omega
theorem stR_read (bs : List UInt8) (room : Nat) : readM (stR bs room) refsB = (bs, 0) := rfl
open Go.RowKit
theorem KR.stuck {r : RfM} {prev : List UInt8} {n : Nat} (h : KR r prev n) : getA (stuckR r).all mainB = prev ∧ RfOk (stuckR r) ∧ (stuckR r).stuck = true ∧ (∀ new, checkR (stuckR r) (kT prev new) = 0) :=
 ⟨h.get, stuck_ok h.ok, rfl, fun new => h.check⟩
theorem stR_create (X : List UInt8) (room : Nat) : createM (stR X room) tmpB = (⟨[⟨X, X.length⟩, ⟨[], 0⟩], [(refsB, 0), (tmpB, 1)], [(refsB, 0)], [⟨[], tmpB, 1⟩], room, 0, false⟩, 0) := rfl
theorem tmp_append {X Y : List UInt8} {room : Nat} (h : X.length + Y.length ≤ room) : appendM ⟨[⟨X, X.length⟩, ⟨[], 0⟩], [(refsB, 0), (tmpB, 1)], [(refsB, 0)], [⟨[], tmpB, 1⟩], room, 0, false⟩ tmpB Y = (⟨[⟨X, X.length⟩, ⟨Y, 0⟩], [(refsB, 0), (tmpB, 1)], [(refsB, 0)], [⟨[], tmpB, 1⟩], room, 0, false⟩, 0) := by
 have hr : roomM ⟨[⟨X, X.length⟩, ⟨[], 0⟩], [(refsB, 0), (tmpB, 1)], [(refsB, 0)], [⟨[], tmpB, 1⟩], room, 0, false⟩ = room - (X.length + (0 + 0)) := rfl
 have hfd : findM ⟨[⟨X, X.length⟩, ⟨[], 0⟩], [(refsB, 0), (tmpB, 1)], [(refsB, 0)], [⟨[], tmpB, 1⟩], room, 0, false⟩ tmpB = (some 1, 0) := rfl
 unfold appendM
 rw [hfd]
 simp only
 rw [hr, if_neg (by omega)]
 rfl
theorem tmp_sync (X Y : List UInt8) (room : Nat) : syncM ⟨[⟨X, X.length⟩, ⟨Y, 0⟩], [(refsB, 0), (tmpB, 1)], [(refsB, 0)], [⟨[], tmpB, 1⟩], room, 0, false⟩ tmpB = (⟨[⟨X, X.length⟩, ⟨Y, Y.length⟩], [(refsB, 0), (tmpB, 1)], [(refsB, 0)], [⟨[], tmpB, 1⟩], room, 0, false⟩, 0) := rfl
theorem tmp_rename (X Y : List UInt8) (room : Nat) : renameM ⟨[⟨X, X.length⟩, ⟨Y, Y.length⟩], [(refsB, 0), (tmpB, 1)], [(refsB, 0)], [⟨[], tmpB, 1⟩], room, 0, false⟩ tmpB refsB = (⟨[⟨X, X.length⟩, ⟨Y, Y.length⟩], [(refsB, 1)], [(refsB, 0)], [⟨[], tmpB, 1⟩, ⟨tmpB, refsB, 1⟩], room, 0, false⟩, 0) := rfl
theorem tmp_flush (X Y : List UInt8) (room : Nat) : flushM ⟨[⟨X, X.length⟩, ⟨Y, Y.length⟩], [(refsB, 1)], [(refsB, 0)], [⟨[], tmpB, 1⟩, ⟨tmpB, refsB, 1⟩], room, 0, false⟩ = (⟨[⟨X, X.length⟩, ⟨Y, Y.length⟩], [(refsB, 1)], [(refsB, 1)], [], room, 0, false⟩, 0) := rfl
def renewed (X : List UInt8) (room G : Nat) : DM := if G = X.length then stR X room else ⟨[⟨X, X.length⟩, ⟨X.take G, (X.take G).length⟩], [(refsB, 1)], [(refsB, 1)], [], room, 0, false⟩
theorem open_stR {N g K L G room : Nat} {d : DA} {w : World} {X : List UInt8} {R : RfM} (h : DiskIn N w g (stR X room) d) (hf : Fit K L (stR X room)) (hK : K < 999990) (hL : L ≤ 1000000000000) (hX : X.length ≤ 10000) (hroom : X.length + X.length ≤ room) (hop : openP (X.length + 1) rf0 X 0 = (R, G)) :
  Calls Tryz.prog 9 #[.pointer (some ⟨g, 0, none⟩)] w fun e w' => ∃ gr, e = .returned (.tuple #[.pointer (some ⟨gr, 0, none⟩), .int .i64 0]) ∧ (∃ d' q, DR N w' g (renewed X room G) d' gr R q ∧ Aft N g w w' (renewed X room G) d d') ∧ Fit (K + 2) (L + 10000) (renewed X room G) ∧ RfOk R ∧ R.stuck = false ∧ Below N w w' := by
 refine open_old h hf hK hL (stR_read X room) hX hop (fun e => by unfold renewed; rw [if_pos e]) (fun e => ⟨0, _, _, _, _, rfl, stR_create X room, tmp_append (by rw [List.length_take]; omega), tmp_sync _ _ _, tmp_rename _ _ _, ?_⟩)
 unfold renewed
 rw [if_neg e]
 exact tmp_flush _ _ _
end Go.Proofs.YtelbofikcpchiaaGreat
