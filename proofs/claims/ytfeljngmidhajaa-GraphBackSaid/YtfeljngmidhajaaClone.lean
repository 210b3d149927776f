/- A copy of a list of chunks. -/
import Derived.Test.YtfeljngmidhajaaIdx
namespace Go.Proofs.Ytfeljngmidhajaa
open Go.RowKit Go.Mine

/-- chunks as cells -/
def ccells : List Ch → List Value
  | [] => []
  | c :: l => .int .u32 (c.1 : Nat) :: .string c.2 :: ccells l
theorem ccells_length (l : List Ch) : (ccells l).length = l.length * 2 := by
  induction l with
  | nil => rfl
  | cons c l ih => simp [ccells, ih]; omega
theorem ccells_get : ∀ (l : List Ch) (i : Nat) (c : Ch), l[i]? = some c → (ccells l)[i * 2]? = some (.int .u32 (c.1 : Nat)) ∧ (ccells l)[i * 2 + 1]? = some (.string c.2)
  | [], i, c, h => by simp at h
  | d :: l, 0, c, h => by simp at h; subst h; simp [ccells]
  | d :: l, i + 1, c, h => by
    have := ccells_get l i c (by simpa using h)
    have e1 : (i + 1) * 2 = i * 2 + 1 + 1 := by omega
    have e2 : (i + 1) * 2 + 1 = i * 2 + 1 + 1 + 1 := by omega
    rw [e2, e1]
    simp only [ccells, List.getElem?_cons_succ]
    exact this
theorem ccells_at (l : List Ch) (j : Nat) (u : Value) (h : (ccells l)[j]? = some u) : ∃ i c, l[i]? = some c ∧ ((j = i * 2 ∧ u = .int .u32 (c.1 : Nat)) ∨ (j = i * 2 + 1 ∧ u = .string c.2)) := by
  have hj := (List.getElem?_eq_some_iff.1 h).1
  rw [ccells_length] at hj
  have hi : j / 2 < l.length := by omega
  have hc : l[j / 2]? = some l[j / 2] := List.getElem?_eq_getElem hi
  obtain ⟨g1, g2⟩ := ccells_get l _ _ hc
  rcases Nat.mod_two_eq_zero_or_one j with hm | hm
  · have e : j = j / 2 * 2 := by omega
    refine ⟨_, _, hc, .inl ⟨e, ?_⟩⟩
    rw [e, g1] at h
    exact (Option.some.inj h).symm
  · have e : j = j / 2 * 2 + 1 := by omega
    refine ⟨_, _, hc, .inr ⟨e, ?_⟩⟩
    rw [e, g2] at h
    exact (Option.some.inj h).symm

/-- a list of chunks as what an append yields -/
theorem src_chunks {w : World} {a : Option Addr} {cap : Nat} {l : List Ch} (h : ChIs w a cap l) (hnil : a = none → cap = 0) : Src Try.prog 2 22 (.slice a l.length cap) l.length (ccells l) w := by
  rcases Nat.eq_zero_or_pos l.length with h0 | h0
  · have : l = [] := List.eq_nil_of_length_eq_zero h0
    subst this
    cases a with
    | none => exact Src.ofNil w Try.underlying22 cap
    | some ad => exact Src.ofSlice w Try.underlying22 ad 0 cap [] rfl (fun j u hj => by simp at hj) (fun u hu => by simp at hu)
  · obtain ⟨b, off, rfl, hb, hel⟩ := h.2.2.2 h0
    refine Src.ofSlice w Try.underlying22 ⟨b, off, none⟩ l.length cap (ccells l) (ccells_length l) (fun j u hj => ?_) (fun u hu => ?_)
    · rw [Addr.add_lit]
      obtain ⟨i, c, hi, ⟨rfl, rfl⟩ | ⟨rfl, rfl⟩⟩ := ccells_at l j u hj
      · exact (hel i c hi).1
      · rw [← Nat.add_assoc]; exact (hel i c hi).2
    · obtain ⟨j, hj⟩ := List.getElem?_of_mem hu
      obtain ⟨i, c, hi, ⟨rfl, rfl⟩ | ⟨rfl, rfl⟩⟩ := ccells_at l j u hj <;> rfl

theorem info31 : (Try.prog.info? 31).map (fun i => (i.zero, i.size, i.bytes)) = some (some (.agg #[.int .u32 0, .string ⟨#[]⟩]), 2, 24) := by kernel_rfl

set_option maxRecDepth 100000 in
set_option maxHeartbeats 1000000 in
theorem clone_any (a : Option Addr) (cap : Nat) (l : List Ch) (w : World) (h : ChIs w a cap l) (hs : a ≠ none) (hl : l.length ≤ 100000) :
    Calls Try.prog 39 #[.slice a l.length cap] w fun e w' => ∃ v, e = .returned v ∧ Sl w' (fun b => w.heap.size ≤ b) 31 2 v (ccells l) l.length ∧ Turned (fun _ => False) w w' := by
  have hsrc : ∀ w', Turned (fun _ => False) w w' → Src Try.prog 2 22 (.slice a l.length cap) l.length (ccells l) w' := fun w' ht => src_chunks (h.turned ht) (fun q => absurd q hs)
  obtain ⟨ad, rfl⟩ : ∃ ad, a = some ad := by cases a with
    | none => exact absurd rfl hs
    | some ad => exact ⟨ad, rfl⟩
  have HS : Hid (∀ w', Turned (fun _ => False) w w' → Src Try.prog 2 22 (.slice (some ad) l.length cap) l.length (ccells l) w') := hsrc
  have HL : Hid (l.length ≤ 100000) := hl
  clear h hs hsrc hl
  generalize hL : l.length = L at *
  have HLL : Hid (l.length = L) := hL
  clear hL
  have hq : ∀ w', (binOp .eql 22 (.slice (some ad) L cap) (.slice none 0 0)).run Try.prog w' = .ok (.bool false) w' := fun w' => Lib.run_eql_slice_nil w' 22 31 (some ad) L cap 0 0 Try.underlying22
  go_enter Try.func39, Try.ntmps39
  have hsl0 : Sl (w.alloc (.cells #[] 31)) (· = w.heap.size) 31 2 (.slice (some ⟨w.heap.size, 0, none⟩) 0 0) [] 0 :=
    ⟨rfl, .inr ⟨w.heap.size, 0, 0, #[], rfl, rfl, heap_alloc_last w _, Nat.le_refl _, by simp [maxLen], by simp, by simp⟩⟩
  have hsrc := HS.out (w.alloc (.cells #[] 31)) (Turned.alloc _ _ _)
  have h1 : Hid (0 + L ≤ maxLen) := (by have := HL.out; simp only [maxLen]; omega : 0 + L ≤ maxLen)
  have h2 : Hid ((0 + L) * 24 ≤ 140737488355328) := (by have := HL.out; omega : (0 + L) * 24 ≤ 140737488355328)
  have A0 : Hid (Sl (w.alloc (.cells #[] 31)) (· = w.heap.size) 31 2 (.slice (some ⟨w.heap.size, 0, none⟩) 0 0) [] 0) := hsl0
  have A1 : Hid (Src Try.prog 2 22 (.slice (some ad) L cap) L (ccells l) (w.alloc (.cells #[] 31))) := hsrc
  clear hsl0 hsrc
  go_wp2_with (at_builtin; refine wpList_append rfl _ _ 22 22 rfl A0.out Try.underlying22 info31 rfl (by decide) rfl (.slice (some ad) L cap) rfl A1.out h1.out h2.out ?_; intro v' w1 hsl1 ht1; obtain ⟨a2, cap2, hv2, -, -⟩ := hsl1.value; subst hv2)
  go_ret
  refine ⟨_, rfl, ?_, (Turned.alloc (fun _ => False) w (.cells #[] 31)).comp ht1 fun i hi q => q.elim id fun q => by omega⟩
  rw [List.nil_append] at hsl1
  have hz : (w.alloc (.cells #[] 31)).heap.size = w.heap.size + 1 := by simp
  have := hsl1.widen (T := fun b => w.heap.size ≤ b) fun b q => q.elim (fun q => by omega) fun q => by omega
  rw [Nat.zero_add] at this
  simpa using this
end Go.Proofs.Ytfeljngmidhajaa
