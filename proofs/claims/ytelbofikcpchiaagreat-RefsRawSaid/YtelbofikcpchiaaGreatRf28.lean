/- RefsWhole: the law's walk. -/
import Derived.Test.YtelbofikcpchiaaGreatQR
namespace Go.Proofs.YtelbofikcpchiaaGreat
open Go.RowKit
theorem own_put {w : World} {base : Nat} {e : TypeId} {sz g n c : Nat} {xs p q r vs : List Value} (h : w.ownsRow base e sz (.slice (some ⟨g, 0, none⟩) n c) n xs) (hx : xs = p ++ q ++ r) (hl : q.length = vs.length) :
  ∃ W, w.setCells g p.length vs.toArray.toList = W ∧ Hid (w.there g p.length vs.toArray.size) ∧ Hid (W.ownsRow base e sz (.slice (some ⟨g, 0, none⟩) n c) n (p ++ vs ++ r)) ∧ Hid (w.grownBy W (some g)) := by
 rcases h.2 with ⟨h0, _⟩ | ⟨g', cap, cur, hv, hb, hh, hn, hc, hs, ht⟩
 ·cases h0
 ·cases hv
  have hl1 := h.1
  have hcur : cur = (p ++ q ++ (r ++ cur.toList.drop (n * sz))).toArray := by
   have : cur.toList = p ++ q ++ (r ++ cur.toList.drop (n * sz)) := by
    rw [← List.append_assoc, ← hx, ← ht, List.take_append_drop]
   rw [← this, Array.toArray_toList]
  obtain ⟨rest, hrest⟩ := eX (cur.toList.drop (n * sz))
  rw [hrest] at hcur
  rw [hcur] at hh hs
  obtain ⟨W, h1, h2, h3, h4⟩ := put_mid (vs := vs) hh hl
  refine ⟨W, h1, h2, h_ ⟨?_, .inr ⟨g, c, _, rfl, hb, h3.out, hn, hc, ?_, ?_⟩⟩, h4⟩
  ·rw [hx] at hl1
   simp only [List.length_append] at hl1 ⊢
   omega
  ·simp only [List.size_toArray, List.length_append] at hs ⊢
   omega
  ·rw [hx] at hl1
   have e1 : (p ++ vs ++ (r ++ rest)).toArray.toList = (p ++ vs ++ r) ++ rest := by simp
   rw [e1, List.take_append_of_le_length (by simp only [List.length_append] at hl1 ⊢; omega), List.take_of_length_le (by simp only [List.length_append] at hl1 ⊢; omega)]
theorem own_some {w : World} {base : Nat} {e : TypeId} {sz n : Nat} {v : Value} {xs : List Value} (h : w.ownsRow base e sz v n xs) (hn : 0 < n) : ∃ g c, v = .slice (some ⟨g, 0, none⟩) n c ∧ base ≤ g ∧ g < w.heap.size := by
 rcases h.2 with ⟨_, h0⟩ | ⟨g, cap, cur, hv, hb, hh, _⟩
 ·omega
 ·exact ⟨g, cap, hv, hb, (Array.getElem?_eq_some_iff.1 hh).1⟩
end Go.Proofs.YtelbofikcpchiaaGreat
