/- Arguments that came in: lists of texts, of numbers, of commands, as the walks want them. -/
import Derived.Test.YteblabpplaaddaaGreatDoorMx
import Derived.WalkKit
import Derived.ProofKit
import Derived.OpenShut
import Derived.ShutString
import Derived.ChangeOld
import Derived.Below
import Derived.Deep.Slices
import Derived.Deep.Strs
import Derived.ChangeSame
import Derived.SizedLaws
set_option linter.unusedVariables false
set_option linter.unusedSimpArgs false
namespace Go.Proofs.YteblabpplaaddaaGreatDoor
open Go.ChangeShapes Go.WideShapes Go.ChangeAt Go.RowKit Go.Deep Go.Mine Go.Mine.Sc

theorem laidOut : laidOutB Tryz.prog = true := by kernel_rfl
theorem weightsAll_mem {H : Type} {P : Program} {e : TypeId} : ∀ {ds : List (DataW H)} {d : DataW H}, d ∈ ds → ∀ n ∈ d.weights P e, n ∈ DataW.weightsAll P e ds
  | [], d, h, n, _ => by simp at h
  | d0 :: ds, d, h, n, hn => by
    simp only [DataW.weightsAll, List.mem_append]
    rcases List.mem_cons.1 h with rfl | h
    · exact .inl hn
    · exact .inr (weightsAll_mem h n hn)
theorem listOf {α : Type} {p : Nat → α → Prop} : ∀ n, (∀ i, i < n → ∃ c, p i c) → ∃ l : List α, l.length = n ∧ ∀ i c, l[i]? = some c → p i c
  | 0, _ => ⟨[], rfl, fun i c h => by simp at h⟩
  | n + 1, h => by
    obtain ⟨l, hl, hp⟩ := listOf n fun i hi => h i (by omega)
    obtain ⟨c, hc⟩ := h n (by omega)
    refine ⟨l ++ [c], by simp [hl], fun i d hd => ?_⟩
    rw [List.getElem?_append] at hd
    split at hd
    · exact hp i d hd
    · have : i = n := by
        have := (List.getElem?_eq_some_iff.1 hd).1
        simp at this
        omega
      subst this
      rw [hl, Nat.sub_self] at hd
      simp at hd
      subst hd
      exact hc
theorem plain_addr {w : World} {a : Addr} {v : Value} (h : w.cell? a = some v) : ∃ b off, a = ⟨b, off, none⟩ ∧ b < w.heap.size := by
  obtain ⟨b, off, sp⟩ := a
  cases sp with
  | none =>
    refine ⟨b, off, rfl, ?_⟩
    apply Classical.byContradiction
    intro q
    simp [World.cell?, Array.getElem?_eq_none (by omega : w.heap.size ≤ b)] at h
  | some x =>
    exfalso
    simp only [World.cell?] at h
    split at h <;> simp at h
theorem addr_zero (a : Addr) : a.add 0 = a := by
  obtain ⟨b, off, sp⟩ := a
  cases sp <;> simp [Addr.add]
theorem addr_cell {a : Addr} {w : World} {v : Value} (h : w.cell? (a.add 0) = some v) : ∃ b off, a = ⟨b, off, none⟩ ∧ b < w.heap.size := by
  rw [addr_zero] at h
  exact plain_addr h

section
variable {H : Type} {enc : TypeId × Value → H} {W : World} {held : Bool}
theorem str_weight {H : Type} (P : Program) (s : ByteArray) : s.size ∈ DataW.weights P 9 (.lit (.string s.data.toList) : DataW H) := by simp [DataW.weights]
set_option maxRecDepth 100000 in
theorem isStrs {a : Option Addr} {len cap fuel : Nat} {x : DataW H × List MemPlace}
    (h : DataW.trod enc Tryz.prog W 0 (fun _ => true) held fuel 24 [.slice a len cap] = some x) (hw : ∀ n ∈ x.1.weights Tryz.prog 24, n ≤ reachBytes) :
    ∃ l : List B, l.length = len ∧ Rd W (fun _ => True) 1 (.slice a len cap) (scells l) len ∧ (∀ y ∈ l, y.length ≤ reachBytes) := by
  rcases open_strs Tryz.underlying24 Tryz.underlying9 (by kernel_rfl) h with ⟨hcs, _⟩ | ⟨ad, l, c, m, Sx, hcs, _, hl, hm, hmm, hx, hi⟩
  · simp at hcs
    obtain ⟨rfl, rfl, rfl⟩ := hcs
    exact ⟨[], rfl, ⟨rfl, none, 0, rfl, Nat.le_refl _, by simp [maxLen], fun q => by omega⟩, by simp⟩
  · simp at hcs
    obtain ⟨rfl, rfl, rfl⟩ := hcs
    simp only [if_true] at hmm
    subst hmm
    have hwe : ∀ i, i < len → (Sx i).size ≤ reachBytes := fun i hi' => by
      refine hw _ ?_
      rw [hx]
      simp only [DataW.weights, Tryz.underlying24]
      refine List.mem_cons_of_mem _ (List.mem_append_left _ (weightsAll_mem (d := .lit (.string (Sx i).data.toList)) (List.mem_map.2 ⟨i, List.mem_range.2 hi', rfl⟩) _ ?_))
      exact str_weight _ _
    obtain ⟨l, hll, hlp⟩ := listOf (p := fun i (y : B) => bs y = Sx i) len fun i hi' => ⟨(Sx i).data.toList, by simp [bs]⟩
    refine ⟨l, hll, ⟨by simp [scells, hll], some ad, m, rfl, hl, hm, fun q => ?_⟩, fun y hy => ?_⟩
    · obtain ⟨b, off, rfl, hb⟩ := addr_cell (hi 0 (by omega)).1
      refine ⟨b, off, rfl, trivial, hb, fun j hj => ?_⟩
      have hj' : j < l.length := by omega
      have h1 := (hi j (by omega)).1
      rw [Addr.add_lit] at h1
      rw [h1, ← hlp j l[j] (List.getElem?_eq_getElem hj')]
      simp [scells, hj']
    · obtain ⟨i, hi'⟩ := List.getElem?_of_mem hy
      have := hlp i y hi'
      have hlt := (List.getElem?_eq_some_iff.1 hi').1
      have h2 := hwe i (by omega)
      rw [← this, bs_size] at h2
      exact h2
end
end Go.Proofs.YteblabpplaaddaaGreatDoor
