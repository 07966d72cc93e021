
/- append, and that what the row held before is still read by the old slice. No condition; no program. -/

import Derived.Test.YtpmifpblamjclaaBase

namespace Go.Proofs.Ytpmifpblamjclaa

set_option linter.unusedVariables false

open Go.RowKit

section

variable {P : Program} (w : World)

theorem run_append_kept (base : Nat) (t ty e : TypeId) (z : Value) (size bytes : Nat) (ht : P.underlying t = some (.slice e)) (hi : (P.info? e).map (fun i => (i.zero, i.size, i.bytes)) = some (some z, size, bytes))
    (hzs : z.cells.size = size) (hsz : 0 < size)
    (v : Value) (n : Nat) (xs : List Value) (hown : w.ownsRow base e size v n xs)
    (a : Addr) (m c : Nat) (news : List Value) (hn : news.length = m * size) (hr : Rd w (some a) news) (h1 : ∀ u ∈ news, u.oneCell' = true)
    (h63 : n + m ≤ maxLen) (hbytes : (n + m) * bytes ≤ 140737488355328) {v' : Value} {w' : World}
    (hrun : (Builtin.append_ #[t, t] ty #[v, .slice (some a) m c]).run P w = .ok v' w') (hown' : w'.ownsRow base e size v' (n + m) (xs ++ news)) (A : Option Addr) (n0 c0 : Nat) (hv : v = .slice A n0 c0) : Rd w' A xs := by
  obtain ⟨i, hii, hz, hsize, hby⟩ := info_parts hi
  clear hi
  subst hsize hby
  have hsmall : n + m ≤ 9223372036854775807 := by simp only [maxLen] at h63; omega
  have hnews : ∀ j u, news[j]? = some u → w.cell? (a.add j) = some u := by
    intro j u hu
    obtain ⟨b, o, hA, hc⟩ := hr j u hu
    cases hA
    rw [Addr.add_lit]
    exact hc
  rcases hown.2 with ⟨rfl, rfl⟩ | ⟨g, cap, cur, rfl, hbg, hg, hnc, hcm, hcs, htake⟩
  · have hx : xs = [] := List.eq_nil_of_length_eq_zero (by simpa using hown.1)
    subst hx
    exact Rd.nil
  · cases hv
    have holdr : Rd w (some ⟨g, 0, none⟩) xs := own_rd hown
    by_cases hroom : n + m ≤ c0
    · have hfit : n * i.size + news.length ≤ cur.size := by rw [hn, hcs, ← Nat.add_mul]; exact Nat.mul_le_mul_right _ hroom
      have hr' := run_append_room (P := P) w t ty e i ht hii g n c0 cur hg a m c news hn hnews h1 hroom hfit
      rw [hr'] at hrun
      cases hrun
      exact (own_rd hown').front
    · have holds : ∀ j u, xs[j]? = some u → w.cell? ((⟨g, 0, none⟩ : Addr).add j) = some u := hown.cells (g := g) rfl
      have hr' := run_append_grow (P := P) w t ty e i z ht hii hz ⟨g, 0, none⟩ n c0 xs hown.1 holds a m c news hn hnews (by omega) (by omega) (growslice_fits (by omega) hbytes)
      rw [hr'] at hrun
      cases hrun
      exact holdr.drew.alloc _
end

theorem wp_append_kept {P : Program} {o : Oper} {a : Act} {w : World} {K : Act → World → Prop} {Q : Exit → Act → World → Prop} (s x : Operand) (t : TypeId)
    (ho : o.op = .call { callee := .builtin .append, args := #[s, x], argTypes := #[t, t] })
    (base : Nat) (e : TypeId) (z : Value) (size bytes : Nat) (ht : P.underlying t = some (.slice e)) (hi : (P.info? e).map (fun i => (i.zero, i.size, i.bytes)) = some (some z, size, bytes))
    (hzs : z.cells.size = size) (hsz : 0 < size)
    (A0 : Option Addr) (n0 c0 : Nat) (n : Nat) (xs : List Value) (hs : a.eval s = .slice A0 n0 c0) (hown : w.ownsRow base e size (.slice A0 n0 c0) n xs)
    (A : Addr) (m c : Nat) (news : List Value) (hx : a.eval x = .slice (some A) m c) (hn : news.length = m * size) (hr : Rd w (some A) news) (h1 : ∀ u ∈ news, u.oneCell' = true)
    (h63 : n + m ≤ maxLen) (hbytes : (n + m) * bytes ≤ 140737488355328) (hbase : base ≤ w.heap.size)
    (h : ∀ v' w', w'.ownsRow base e size v' (n + m) (xs ++ news) → w.grownBy w' (Value.slice A0 n0 c0).ownBlock → Rd w' A0 xs → K (a.put o.dst v') w') : o.wp P a w K Q := by
  obtain ⟨v', w', hrun, h2, h3, h4⟩ := run_append_rd (P := P) w base t o.type e z size bytes ht hi hzs hsz _ n xs hown (some A) m c news hn hr h1 h63 hbytes hbase
  have h5 := run_append_kept (P := P) w base t o.type e z size bytes ht hi hzs hsz _ n xs hown A m c news hn hr h1 h63 hbytes hrun h2 A0 n0 c0 rfl
  unfold Oper.wp execOp
  simp only [ho, resolve, invoke, builtin, Sem.run_bind, Sem.run_pure, Result.andThen_ok, List.map_toArray, List.map_cons, List.map_nil, hs, hx, hrun]
  exact h v' w' h2 h3 h5
end Go.Proofs.Ytpmifpblamjclaa
