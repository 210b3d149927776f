/- Texts one behind the other, and lines that say nothing laid between (no program in sight). -/
import Derived.Test.YteblabpplaaddaaDoorSs
import Derived.Lib.SplitLaws
set_option linter.unusedVariables false
set_option linter.unusedSimpArgs false
namespace Go.Mine.Sc

/-- a text that is empty or ends with a line's end -/
def Cl (p : B) : Prop := p = [] ∨ ∃ q, p = q ++ [10]
theorem Cl.of {p : B} (h : p = [] ∨ p.getLast? = some 10) : Cl p := h.imp id fun q => by
  obtain ⟨ys, hy⟩ := List.getLast?_eq_some_iff.1 q
  exact ⟨ys, hy⟩
theorem Cl.to {p : B} (h : Cl p) : p = [] ∨ p.getLast? = some 10 := h.imp id fun ⟨q, hq⟩ => by rw [hq]; simp
theorem Cl.app {p r : B} (hp : Cl p) (hr : Cl r) : Cl (p ++ r) := by
  rcases hr with rfl | ⟨q, rfl⟩
  · rw [List.append_nil]; exact hp
  · exact .inr ⟨p ++ q, by rw [List.append_assoc]⟩
theorem Cl.flat : ∀ {ls : List B}, (∀ x ∈ ls, Cl x) → Cl ls.flatten
  | [], _ => .inl rfl
  | x :: ls, h => by
    rw [List.flatten_cons]
    exact (h x (List.mem_cons_self ..)).app (Cl.flat fun y hy => h y (List.mem_cons_of_mem _ hy))
theorem says_nil : ¬ says [] := fun h => h.1 rfl
theorem pLines_nil : pLines [[]] = some [] := by rw [pLines, if_neg says_nil, pLines]
/-- a text behind a closed one -/
theorem cl_lines {p : B} (h : Cl p) (y : B) : pLines (parts (p ++ y)) = match pLines (parts p) with | none => none | some x => (pLines (parts y)).map (x ++ ·) := by
  rcases h with rfl | ⟨q, rfl⟩
  · rw [List.nil_append, parts_nil, pLines_nil]
    cases pLines (parts y) <;> simp
  · rw [List.append_assoc, List.singleton_append, parts_join, pLines_app, parts_snoc10, pLines_app, pLines_nil]
    cases pLines (parts q) <;> simp
/-- what may be laid ahead of a line -/
def Void (x : B) : Prop := x ≠ [] ∧ Cl x ∧ x.length ≤ 7 ∧ x.count 10 = 1 ∧ pLines (parts x) = some []
theorem void0 : Void [10] := ⟨by simp, .inr ⟨[], rfl⟩, by decide, by decide, by rw [parts_10, parts_nil, pLines, if_neg says_nil, pLines_nil]⟩
theorem void1 : Void [35, 32, 34, 92, 120, 255, 10] := ⟨by simp, .inr ⟨[35, 32, 34, 92, 120, 255], rfl⟩, by decide, by decide, by
  have : parts [35, 32, 34, 92, 120, 255, 10] = [[35, 32, 34, 92, 120, 255], []] := by simp [parts]
  rw [this, pLines, if_neg (fun h => h.2 rfl), pLines_nil]⟩
theorem void_lines {x : B} (h : Void x) (y : B) : pLines (parts (x ++ y)) = pLines (parts y) := by
  rw [cl_lines h.2.1, h.2.2.2.2]
  cases pLines (parts y) <;> simp
/-- pieces of a text: all but the last are closed -/
def Pieces (a : B) (i : Nat) (ls : List B) : Prop :=
  ls ≠ [] ∧ (∀ j x, ls[j]? = some x → j + 1 < ls.length → Cl x) ∧ pLines (parts ls.flatten) = pLines (parts a) ∧ ls.flatten.length ≤ a.length + 7 * i ∧ ls.flatten.count 10 ≤ a.count 10 + i
theorem pieces_set {a : B} {i k : Nat} {ls : List B} {x y : B} (h : Pieces a i ls) (hk : ls[k]? = some y) (hx : Void x) : Pieces a (i + 1) (ls.set k (x ++ y)) := by
  obtain ⟨h1, h2, h3, h4, h5⟩ := h
  have hlt := (List.getElem?_eq_some_iff.1 hk).1
  have e0 : ls.flatten = (ls.take k).flatten ++ (y ++ (ls.drop (k + 1)).flatten) := by
    have : ls = ls.take k ++ y :: ls.drop (k + 1) := by
      have e := (List.getElem?_eq_some_iff.1 hk).2
      rw [← e, ← List.drop_eq_getElem_cons hlt, List.take_append_drop]
    conv => lhs; rw [this]
    simp
  have e1 : (ls.set k (x ++ y)).flatten = (ls.take k).flatten ++ (x ++ (y ++ (ls.drop (k + 1)).flatten)) := by
    rw [List.set_eq_take_append_cons_drop, if_pos hlt]
    simp
  have hc : Cl (ls.take k).flatten := Cl.flat fun z hz => by
    obtain ⟨j, hj⟩ := List.getElem?_of_mem hz
    rw [List.getElem?_take] at hj
    split at hj
    · exact h2 j z hj (by omega)
    · simp at hj
  refine ⟨fun q => h1 (by simpa using q), fun j z hz hj => ?_, ?_, ?_, ?_⟩
  · rw [List.length_set] at hj
    rw [List.getElem?_set] at hz
    split at hz
    · rename_i e
      subst e
      rw [← Option.some.inj hz]
      exact hx.2.1.app (h2 k y hk hj)
    · exact h2 j z hz hj
  · rw [e1, cl_lines hc, void_lines hx, ← h3, e0, cl_lines hc]
  · rw [e1]; rw [e0] at h4; have := hx.2.2.1; simp only [List.length_append] at h4 ⊢; omega
  · rw [e1]; rw [e0] at h5; have := hx.2.2.2.1; simp only [List.count_append] at h5 ⊢; omega
theorem split_pieces : ∀ (k : Nat) (s : B), (Lib.splitK [10] 1 k s).flatten = s ∧ Lib.splitK [10] 1 k s ≠ [] ∧ ∀ j x, (Lib.splitK [10] 1 k s)[j]? = some x → j + 1 < (Lib.splitK [10] 1 k s).length → Cl x
  | 0, s => ⟨by simp [Lib.splitK], by simp [Lib.splitK], fun j x _ h => by simp [Lib.splitK] at h⟩
  | k + 1, s => by
    unfold Lib.splitK
    split
    · exact ⟨by simp, by simp, fun j x _ h => by simp at h⟩
    · rename_i hm
      rcases Lib.index_spec s [10] with ⟨q, -⟩ | ⟨i, q, hi, ho, -⟩
      · exact absurd (by rw [q]; rfl) hm
      · have hc := Lib.occAt_head (s := s) (sub := [10]) (t := []) rfl ho
        have hlt := (List.getElem?_eq_some_iff.1 hc).1
        have e : (Lib.index s [10]).toNat = i := by omega
        rw [e]
        obtain ⟨h1, h2, h3⟩ := split_pieces k (s.drop (i + [(10 : UInt8)].length))
        refine ⟨?_, by simp, fun j x hx hj => ?_⟩
        · rw [List.flatten_cons, h1]
          exact List.take_append_drop _ _
        · cases j with
          | zero =>
            simp only [List.getElem?_cons_zero, Option.some.injEq] at hx
            subst hx
            exact .inr ⟨s.take i, by rw [List.take_add_one, hc]; rfl⟩
          | succ j => exact h3 j x (by simpa using hx) (by simpa using hj)
theorem pieces_split (k : Nat) (s : B) : Pieces s 0 (Lib.splitK [10] 1 k s) := by
  obtain ⟨h1, h2, h3⟩ := split_pieces k s
  exact ⟨h2, h3, by rw [h1], by rw [h1]; omega, by rw [h1]; omega⟩
theorem short_of {t : B} (h1 : t.length ≤ 65536) (h2 : t.count 10 ≤ 1000) : ¬ tooLong t := by
  unfold tooLong nLines
  rintro (h | h)
  · omega
  · split at h <;> omega
theorem parse_short {t : B} {eL eS : Nat} (h : ¬ tooLong t) : parseS eL eS t = match pLines (parts t) with | none => ([], eS) | some l => (l, 0) := by
  unfold parseS
  rw [if_neg h]
  cases pLines (parts t) <;> rfl
/-- texts one behind the other -/
theorem parse_app {a b : B} (ha : Cl a) (h1 : a.length ≤ 20000) (h2 : b.length ≤ 20000) (h3 : a.count 10 + b.count 10 ≤ 1000) (eL eS : Nat) :
    parseS eL eS (a ++ b) = match (pLines (parts a)), (pLines (parts b)) with | some l, some m => (l ++ m, 0) | _, _ => ([], eS) := by
  rw [parse_short (short_of (by rw [List.length_append]; omega) (by rw [List.count_append]; omega)), cl_lines ha]
  cases pLines (parts a) with
  | none => rfl
  | some l => cases pLines (parts b) <;> rfl
/-- pieces with what says nothing between are read as the text -/
theorem parse_pieces {a : B} {i : Nat} {ls : List B} (h : Pieces a i ls) (h1 : a.length ≤ 20000) (h2 : a.count 10 ≤ 500) (hi : i ≤ 100) (eL eS : Nat) : parseS eL eS ls.flatten = parseS eL eS a := by
  obtain ⟨-, -, h3, h4, h5⟩ := h
  rw [parse_short (short_of (by omega) (by omega)), parse_short (short_of (by omega) (by omega)), h3]
end Go.Mine.Sc
