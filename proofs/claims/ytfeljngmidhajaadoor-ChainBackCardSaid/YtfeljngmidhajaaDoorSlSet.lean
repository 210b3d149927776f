/- A store into a slice that a call owns. -/
import Derived.Test.YtfeljngmidhajaaDoorUp
namespace Go.Mine

theorem Sl.set {w : World} {S : Nat → Prop} {e : TypeId} {size : Nat} {g off cap : Nat} {xs : List Value} {n : Nat} (h : Sl w S e size (.slice (some ⟨g, off, none⟩) n cap) xs n) (j : Nat) (hj : j < n * size) (u : Value) :
    Sl (w.setCell ⟨g, off + j, none⟩ u) S e size (.slice (some ⟨g, off, none⟩) n cap) (xs.set j u) n ∧ Turned S w (w.setCell ⟨g, off + j, none⟩ u) ∧ (w.setCell ⟨g, off + j, none⟩ u).heap.size = w.heap.size := by
  rcases h.2 with ⟨hv, -⟩ | ⟨g2, off2, cap2, cur, hv, hS, hg, hnc, hcm, hcs, ht⟩
  · simp at hv
  · injection hv with e1 e2 e3
    injection e1 with e1
    injection e1 with e4 e5 e6
    subst e4; subst e5; subst e3
    have hmul : n * size ≤ cap * size := Nat.mul_le_mul_right _ hnc
    refine ⟨⟨by simpa using h.1, .inr ⟨g, off, cap, _, rfl, hS, Go.Mine.heap_setCell_same hg u, hnc, hcm, by simpa using hcs, ?_⟩⟩, Turned.setCell hS u, Go.Mine.setCell_size _ _ _⟩
    rw [Array.toList_setIfInBounds, ← ht]
    apply List.ext_getElem?
    intro k
    rw [List.getElem?_take, List.getElem?_drop, List.getElem?_set, List.getElem?_set, List.getElem?_take, List.getElem?_drop]
    have hlen : (List.take (n * size) (List.drop off cur.toList)).length = n * size := by rw [ht]; exact h.1
    by_cases hk : k < n * size
    · rw [if_pos hk, if_pos hk]
      by_cases hkj : j = k
      · subst hkj
        rw [if_pos rfl, if_pos rfl, if_pos (by simp; omega), if_pos (by rw [hlen]; exact hk)]
      · rw [if_neg (by omega), if_neg hkj]
    · rw [if_neg hk, if_neg hk, if_neg (by omega)]
end Go.Mine
