
/- Refs: the turns of RefsKeeps. -/

import Derived.Test.YtelbofikcpchiaaGreatRf35

import Derived.Test.YtelbofikcpchiaaGreatQH

namespace Go.Proofs.YtelbofikcpchiaaGreat

set_option linter.unusedVariables false

set_option linter.unusedSimpArgs false

set_option linter.unusedSectionVars false

open Go.RowKit

theorem KR.stuck {r : RfM} {prev : List UInt8} {n : Nat} (h : KR r prev n) : getA (stuckR r).all mainB = prev ∧ RfOk (stuckR r) ∧ (stuckR r).stuck = true ∧ (∀ new, checkR (stuckR r) (kT prev new) = 0) :=
  ⟨h.get, stuck_ok h.ok, rfl, fun new => h.check⟩
theorem kT_empty (old new : List UInt8) : emptyT (kT old new) = false := by
  simp [emptyT, kT, tx1]
/-- a turn of heads/main: it is made, or the power goes -/
theorem kdo {N g gr n L fu : Nat} {w : World} {bs prev new : List UInt8} {d : DA} {r : RfM} {q : QA} (h : DR N w g (kD bs bs.length fu false) d gr r q) (hf : Fit 5 L (kD bs bs.length fu false)) (hk : KR r prev n) (hp : prev.length = 32) (hn : new.length = 32) (hfu : 1 ≤ fu) (hL : L ≤ 1000000) (hn1 : n ≤ 1000) (hbs : bs.length + 114 ≤ 1048576)
    (A : Option Addr) (hr : Rd w A (upsC (kT prev new).us)) (hA : SafeA A (kT prev new).us fun b => foot g d b ∨ footR gr q b) :
    Calls Tryz.prog 10 #[.pointer (some ⟨gr, 0, none⟩), .agg (txC A 1 1 (kT prev new)).toArray] w fun e w' => ∃ (v : Int) (d' : DA) (q' : QA) (r' : RfM) (bs' : List UInt8) (sf' fu' : Nat) (dn' : Bool), e = .returned (.int .i64 v) ∧ DR N w' g (kD bs' sf' fu' dn') d' gr r' q' ∧ Fit 5 (L + 114) (kD bs' sf' fu' dn') ∧ Below N w w' ∧
      (∀ b, b < w.heap.size → ¬ footA g gr d q b → w'.heap[b]? = w.heap[b]? ∧ ¬ footA g gr d' q' b) ∧
      ((v = 0 ∧ 3 ≤ fu ∧ bs' = bs ++ recordB (kT prev new) ∧ sf' = bs'.length ∧ fu' = fu - 2 ∧ dn' = false ∧ KR r' new (n + 1)) ∨
       (v = 50 ∧ fu ≤ 2 ∧ dn' = true ∧ r' = stuckR r ∧ sf' = bs.length ∧ (bs' = bs ∨ bs' = bs ++ recordB (kT prev new)))) := by
  have hrl := rec_len hp hn
  have hto := kT_ok hp hn
  have hpl : (payloadB (kT prev new)).length ≤ 1000000000 := by rw [pay_len hp hn]; decide
  have hge : ∀ i, foot g d i ∨ footR gr q i → N ≤ i := fun i hi => by
    rcases hi with hi | hi
    · exact h.disk.foot_ge hi
    · exact h.refs.foot_ge hi
  have hal : r.all.length ≤ 1000000 ∧ r.log.length ≤ 1000000 := ⟨by have := hk.al; omega, by have := hk.log; omega⟩
  by_cases h1 : fu = 1
  · subst h1
    refine (do_fail_append h hf (by omega) (by omega) hk.ok hk.st A 1 1 (kT prev new) rfl hto hr hA hk.check (kT_empty _ _) hpl hal (kD_append1 (by omega))).mono ?_
    rintro e w' ⟨rfl, d', h1, h2, h3, h4⟩
    rw [hrl] at h2
    refine ⟨50, d', q, stuckR r, bs, bs.length, 0, true, rfl, h1, h2, h3.below h.disk.size hge, fun b hb hnb => ⟨h3.block b hb hnb, fun hfo => ?_⟩, .inr ⟨rfl, by omega, rfl, rfl, rfl, .inl rfl⟩⟩
    rcases h4 b hfo with h5 | h5
    · exact hnb h5
    · omega
  · by_cases h2 : fu = 2
    · subst h2
      refine (do_fail_sync h hf (by omega) (by omega) hk.ok hk.st A 1 1 (kT prev new) rfl hto hr hA hk.check (kT_empty _ _) hpl hal (kD_append (by omega) (by omega)) (kD_sync1 _ _)).mono ?_
      rintro e w' ⟨rfl, d', h1, h2, h3, h4⟩
      rw [hrl] at h2
      refine ⟨50, d', q, stuckR r, bs ++ recordB (kT prev new), bs.length, 0, true, rfl, h1, h2, h3.below h.disk.size hge, fun b hb hnb => ⟨h3.block b hb hnb, fun hfo => ?_⟩, .inr ⟨rfl, by omega, rfl, rfl, rfl, .inr rfl⟩⟩
      rcases h4 b hfo with h5 | h5
      · exact hnb h5
      · omega
    · refine (do_made h hf (by omega) (by omega) hk.ok hk.st A 1 1 (kT prev new) rfl hto hr hA hk.check (kT_empty _ _) hpl hal (kD_append (by omega) (by omega)) (kD_sync (by omega))).mono ?_
      rintro e w' ⟨rfl, d', q', h1, h2, h3, h4⟩
      rw [hrl] at h2
      refine ⟨0, d', q', makeR r (kT prev new), bs ++ recordB (kT prev new), (bs ++ recordB (kT prev new)).length, fu - 1 - 1, false, rfl, h1, h2, h3.below h.disk.size hge, fun b hb hnb => ⟨h3.block b hb hnb, fun hfo => ?_⟩, .inl ⟨rfl, by omega, rfl, rfl, by omega, rfl, hk.make hp hn⟩⟩
      rcases h4 b hfo with h5 | h5
      · exact hnb h5
      · omega

/-! ### behind the loss of power -/

theorem stR_create (X : List UInt8) (room : Nat) : createM (stR X room) tmpB = (⟨[⟨X, X.length⟩, ⟨[], 0⟩], [(refsB, 0), (tmpB, 1)], [(refsB, 0)], [⟨[], tmpB, 1⟩], room, 0, false⟩, 0) := rfl
theorem tmp_append {X Y : List UInt8} {room : Nat} (h : X.length + Y.length ≤ room) : appendM ⟨[⟨X, X.length⟩, ⟨[], 0⟩], [(refsB, 0), (tmpB, 1)], [(refsB, 0)], [⟨[], tmpB, 1⟩], room, 0, false⟩ tmpB Y = (⟨[⟨X, X.length⟩, ⟨Y, 0⟩], [(refsB, 0), (tmpB, 1)], [(refsB, 0)], [⟨[], tmpB, 1⟩], room, 0, false⟩, 0) := by
  have hr : roomM ⟨[⟨X, X.length⟩, ⟨[], 0⟩], [(refsB, 0), (tmpB, 1)], [(refsB, 0)], [⟨[], tmpB, 1⟩], room, 0, false⟩ = room - (X.length + (0 + 0)) := rfl
  have hfd : findM ⟨[⟨X, X.length⟩, ⟨[], 0⟩], [(refsB, 0), (tmpB, 1)], [(refsB, 0)], [⟨[], tmpB, 1⟩], room, 0, false⟩ tmpB = (some 1, 0) := rfl
  unfold appendM
  rw [hfd]
  simp only
  rw [hr, if_neg (by omega)]
  rfl
theorem tmp_sync (X Y : List UInt8) (room : Nat) : syncM ⟨[⟨X, X.length⟩, ⟨Y, 0⟩], [(refsB, 0), (tmpB, 1)], [(refsB, 0)], [⟨[], tmpB, 1⟩], room, 0, false⟩ tmpB = (⟨[⟨X, X.length⟩, ⟨Y, Y.length⟩], [(refsB, 0), (tmpB, 1)], [(refsB, 0)], [⟨[], tmpB, 1⟩], room, 0, false⟩, 0) := rfl
theorem tmp_rename (X Y : List UInt8) (room : Nat) : renameM ⟨[⟨X, X.length⟩, ⟨Y, Y.length⟩], [(refsB, 0), (tmpB, 1)], [(refsB, 0)], [⟨[], tmpB, 1⟩], room, 0, false⟩ tmpB refsB = (⟨[⟨X, X.length⟩, ⟨Y, Y.length⟩], [(refsB, 1)], [(refsB, 0)], [⟨[], tmpB, 1⟩, ⟨tmpB, refsB, 1⟩], room, 0, false⟩, 0) := rfl
theorem tmp_flush (X Y : List UInt8) (room : Nat) : flushM ⟨[⟨X, X.length⟩, ⟨Y, Y.length⟩], [(refsB, 1)], [(refsB, 0)], [⟨[], tmpB, 1⟩, ⟨tmpB, refsB, 1⟩], room, 0, false⟩ = (⟨[⟨X, X.length⟩, ⟨Y, Y.length⟩], [(refsB, 1)], [(refsB, 1)], [], room, 0, false⟩, 0) := rfl
/-- the disk behind Open: as it was, or written anew -/
def renewed (X : List UInt8) (room G : Nat) : DM := if G = X.length then stR X room else ⟨[⟨X, X.length⟩, ⟨X.take G, (X.take G).length⟩], [(refsB, 1)], [(refsB, 1)], [], room, 0, false⟩
theorem open_stR {N g K L G room : Nat} {d : DA} {w : World} {X : List UInt8} {R : RfM} (h : DiskIn N w g (stR X room) d) (hf : Fit K L (stR X room)) (hK : K < 999990) (hL : L ≤ 1000000000000) (hX : X.length ≤ 10000) (hroom : X.length + X.length ≤ room) (hop : openP (X.length + 1) rf0 X 0 = (R, G)) :
    Calls Tryz.prog 9 #[.pointer (some ⟨g, 0, none⟩)] w fun e w' => ∃ gr, e = .returned (.tuple #[.pointer (some ⟨gr, 0, none⟩), .int .i64 0]) ∧ (∃ d' q, DR N w' g (renewed X room G) d' gr R q ∧ Aft N g w w' (renewed X room G) d d') ∧ Fit (K + 2) (L + 10000) (renewed X room G) ∧ RfOk R ∧ R.stuck = false ∧ Below N w w' := by
  refine open_old h hf hK hL (stR_read X room) hX hop (fun e => by unfold renewed; rw [if_pos e]) (fun e => ⟨0, _, _, _, _, rfl, stR_create X room, tmp_append (by rw [List.length_take]; omega), tmp_sync _ _ _, tmp_rename _ _ _, ?_⟩)
  unfold renewed
  rw [if_neg e]
  exact tmp_flush _ _ _
/-- what is there behind the loss of power: the last turn that was made, or the one that was under way -/
theorem keeps_open {ids : List (List UInt8)} {going : List UInt8} (hi : ∀ i ∈ ids, i.length = 32) (hg : going.length = 32) (k : Nat) (hk : k ≤ 114) : ∃ R G, openP ((recsK Z32 ids ++ (recordB (kT (lastK Z32 ids) going)).take k).length + 1) rf0 (recsK Z32 ids ++ (recordB (kT (lastK Z32 ids) going)).take k) 0 = (R, G) ∧
    (KR R (lastK Z32 ids) ids.length ∨ KR R going (ids.length + 1)) := by
  have hl := lastK_len ids Z32 rfl hi
  have hrl := recsK_len ids Z32 rfl hi
  by_cases h : k < 114
  · obtain ⟨R, e, hR⟩ := open_recs ids Z32 [] ((recordB (kT (lastK Z32 ids) going)).take k) rf0 0 ((recsK Z32 ids ++ (recordB (kT (lastK Z32 ids) going)).take k).length + 1) KR.zero rfl hi (split_cutT hl hg h) (by rw [List.length_append, hrl]; omega)
    rw [List.nil_append] at e
    exact ⟨R, _, e, .inl (by rw [Nat.zero_add] at hR; exact hR)⟩
  · have e1 : (recordB (kT (lastK Z32 ids) going)).take k = recordB (kT (lastK Z32 ids) going) := List.take_of_length_le (by rw [rec_len hl hg]; omega)
    rw [e1, ← recsK_app]
    have hi' : ∀ i ∈ ids ++ [going], i.length = 32 := fun i h => by
      rcases List.mem_append.1 h with h | h
      · exact hi i h
      · rw [List.mem_singleton.1 h]; exact hg
    obtain ⟨R, e, hR⟩ := open_recs (ids ++ [going]) Z32 [] [] rf0 0 ((recsK Z32 (ids ++ [going])).length + 1) KR.zero rfl hi' rfl (by rw [recsK_len _ Z32 rfl hi']; omega)
    rw [List.nil_append, List.append_nil] at e
    exact ⟨R, _, e, .inr (by rw [lastK_app, Nat.zero_add, List.length_append] at hR; exact hR)⟩
end Go.Proofs.YtelbofikcpchiaaGreat
