/- A text's lines: the program's way and the document's: plain. -/
import Derived.Test.YteblabpplaaddaaGreatDoorSr
set_option linter.unusedVariables false
set_option linter.unusedSimpArgs false
namespace Go.Mine.Sc
open Go.Lib

/-- up to the first byte 10; behind it -/
def hd10 (s : B) : B := s.takeWhile (fun c => c != 10)
def tl10 (s : B) : B := (s.dropWhile (fun c => c != 10)).tail

/-- the parts between the bytes 10 -/
def parts : B → List B
  | [] => [[]]
  | c :: r => if c = 10 then [] :: parts r else match parts r with | [] => [[c]] | l :: ls => (c :: l) :: ls

theorem parts_ne (s : B) : parts s ≠ [] := by
  cases s with
  | nil => simp [parts]
  | cons c r =>
    unfold parts
    split
    · simp
    · split <;> simp

theorem parts_nil : parts [] = [[]] := rfl
theorem parts_10 (r : B) : parts (10 :: r) = [] :: parts r := by rw [parts, if_pos rfl]
theorem parts_c (c : UInt8) (r : B) (h : c ≠ 10) : ∃ l ls, parts r = l :: ls ∧ parts (c :: r) = (c :: l) :: ls := by
  cases hp : parts r with
  | nil => exact absurd hp (parts_ne r)
  | cons l ls => exact ⟨l, ls, rfl, by rw [parts, if_neg h, hp]⟩

theorem parts_no (s : B) (h : (10 : UInt8) ∉ s) : parts s = [s] := by
  induction s with
  | nil => rfl
  | cons c r ih =>
    simp only [List.mem_cons, not_or] at h
    obtain ⟨l, ls, h1, h2⟩ := parts_c c r (fun q => h.1 q.symm)
    rw [ih h.2] at h1
    injection h1 with h1 h3
    subst h1; subst h3
    exact h2

theorem parts_app (a b : B) (h : (10 : UInt8) ∉ a) : parts (a ++ 10 :: b) = a :: parts b := by
  induction a with
  | nil => exact parts_10 b
  | cons c a ih =>
    simp only [List.mem_cons, not_or] at h
    obtain ⟨l, ls, h1, h2⟩ := parts_c c (a ++ 10 :: b) (fun q => h.1 q.symm)
    rw [ih h.2] at h1
    injection h1 with h1 h3
    subst h1; subst h3
    exact h2

/-- two texts, one behind the other, a byte 10 between them -/
theorem parts_join (a b : B) : parts (a ++ 10 :: b) = parts a ++ parts b := by
  induction a with
  | nil => exact parts_10 b
  | cons c a ih =>
    by_cases hc : c = 10
    · subst hc
      rw [List.cons_append, parts_10, ih, parts_10, List.cons_append]
    · obtain ⟨l, ls, h1, h2⟩ := parts_c c (a ++ 10 :: b) hc
      obtain ⟨l', ls', h3, h4⟩ := parts_c c a hc
      rw [List.cons_append, h2, h4]
      rw [ih, h3, List.cons_append] at h1
      injection h1 with h1 h5
      subst h1; subst h5
      rfl

theorem hd10_no (s : B) : (10 : UInt8) ∉ hd10 s := by
  unfold hd10
  induction s with
  | nil => simp
  | cons c r ih =>
    rw [List.takeWhile_cons]
    split
    · rename_i hc
      intro h
      rcases List.mem_cons.1 h with q | q
      · subst q; simp at hc
      · exact ih q
    · simp

theorem cut10 (s : B) (h : (10 : UInt8) ∈ s) : s = hd10 s ++ 10 :: tl10 s := by
  unfold hd10 tl10
  induction s with
  | nil => simp at h
  | cons c r ih =>
    by_cases hc : c = 10
    · subst hc; simp
    · have hr : (10 : UInt8) ∈ r := by
        rcases List.mem_cons.1 h with q | q
        · exact absurd q.symm hc
        · exact q
      have h2 := ih hr
      simp [hc]
      simpa using h2

theorem parts_cut (s : B) (h : (10 : UInt8) ∈ s) : parts s = hd10 s :: parts (tl10 s) := by
  have := parts_app (hd10 s) (tl10 s) (hd10_no s)
  rwa [← cut10 s h] at this

theorem tl10_lt (s : B) (h : (10 : UInt8) ∈ s) : (tl10 s).length < s.length := by
  have := congrArg List.length (cut10 s h)
  rw [List.length_append, List.length_cons] at this
  omega

theorem parts_count (s : B) : (parts s).length = s.count 10 + 1 := by
  induction s with
  | nil => rfl
  | cons c r ih =>
    by_cases hc : c = 10
    · subst hc; rw [parts_10, List.length_cons, ih, List.count_cons_self]
    · obtain ⟨l, ls, h1, h2⟩ := parts_c c r hc
      rw [h2, List.length_cons]
      rw [h1, List.length_cons] at ih
      rw [List.count_cons_of_ne hc]
      omega

theorem parts_last (s : B) : (parts s).getLast (parts_ne s) = [] ↔ s = [] ∨ s.getLast? = some 10 := by
  induction s with
  | nil => simp [parts]
  | cons c r ih =>
    by_cases hc : c = 10
    · subst hc
      simp only [parts_10]
      rw [List.getLast_cons (parts_ne r), ih]
      cases r with
      | nil => simp
      | cons d r => simp [List.getLast?_cons_cons]
    · obtain ⟨l, ls, h1, h2⟩ := parts_c c r hc
      simp only [h2]
      simp only [h1] at ih
      cases ls with
      | nil =>
        simp only [List.getLast_singleton] at ih ⊢
        constructor
        · intro h; simp at h
        · rintro (h | h)
          · simp at h
          · exfalso
            cases r with
            | nil => simp at h; exact hc h
            | cons d r =>
              rw [List.getLast?_cons_cons] at h
              have := ih.2 (.inr h)
              subst this
              have h3 : parts (d :: r) ≠ [[]] := by
                by_cases hd : d = 10
                · subst hd; rw [parts_10]; intro q; injection q with _ q; exact parts_ne r q
                · obtain ⟨l, ls, h4, h5⟩ := parts_c d r hd
                  rw [h5]; simp
              exact h3 h1
      | cons l2 ls =>
        rw [List.getLast_cons (by simp)] at ih ⊢
        rw [ih]
        cases r with
        | nil => simp [parts] at h1
        | cons d r => simp [List.getLast?_cons_cons]

/-! ### A text -/
/-- does a line say something? -/
def says (l : B) : Prop := l ≠ [] ∧ l.head? ≠ some 35
instance (l : B) : Decidable (says l) := inferInstanceAs (Decidable (_ ∧ _))

/-- the commands of lines -/
def pLines : List B → Option (List Cmd)
  | [] => some []
  | l :: ls => if says l then (match pLine l with | none => none | some c => (pLines ls).map (c :: ·)) else pLines ls

theorem pLines_app (a b : List B) : pLines (a ++ b) = match pLines a with | none => none | some x => (pLines b).map (x ++ ·) := by
  induction a with
  | nil => simp [pLines]
  | cons l a ih =>
    rw [List.cons_append, pLines, pLines]
    split
    · cases pLine l with
      | none => rfl
      | some c =>
        simp only [ih]
        cases pLines a with
        | none => rfl
        | some x => cases pLines b <;> rfl
    · exact ih

/-- how many lines a text has -/
def nLines (t : B) : Nat := if t = [] ∨ t.getLast? = some 10 then t.count 10 else t.count 10 + 1
def tooLong (t : B) : Prop := 65536 < t.length ∨ 1024 < nLines t
instance (t : B) : Decidable (tooLong t) := inferInstanceAs (Decidable (_ ∨ _))

/-- Parse's answer: the commands, and the error (10: too long; 19: a line that is no command) -/
def parseS (eL eS : Nat) (t : B) : List Cmd × Nat := if tooLong t then ([], eL) else match pLines (parts t) with | none => ([], eS) | some l => (l, 0)

/-! ### The document's lines -/
theorem parts_snoc10 (s : B) : parts (s ++ [10]) = parts s ++ [[]] := by
  rw [parts_join s []]; rfl
/-- the closed lines, and what is open -/
def pIn (s : B) : List B := (parts s).dropLast
def pOp (s : B) : B := (parts s).getLast (parts_ne s)
theorem pIn_pOp (s : B) : parts s = pIn s ++ [pOp s] := (List.dropLast_concat_getLast (parts_ne s)).symm
theorem pIn_of {s : B} {l : List B} {x : B} (h : parts s = l ++ [x]) : pIn s = l ∧ pOp s = x := by
  unfold pIn pOp
  simp [h]
theorem pIn_10 (s : B) : pIn (s ++ [10]) = pIn s ++ [pOp s] ∧ pOp (s ++ [10]) = [] := by
  refine pIn_of ?_
  rw [parts_snoc10, ← pIn_pOp]
theorem parts_snoc (s : B) (c : UInt8) (h : c ≠ 10) : parts (s ++ [c]) = pIn s ++ [pOp s ++ [c]] := by
  induction s with
  | nil =>
    obtain ⟨l, ls, h1, h2⟩ := parts_c c [] h
    injection h1 with h1 h3
    subst h1; subst h3
    simpa [pIn, pOp, parts] using h2
  | cons d s ih =>
    by_cases hd : d = 10
    · subst hd
      have e : parts (10 :: s) = ([] :: pIn s) ++ [pOp s] := by rw [parts_10, pIn_pOp s]; rfl
      obtain ⟨e1, e2⟩ := pIn_of e
      rw [List.cons_append, parts_10, ih, e1, e2]; rfl
    · obtain ⟨l, ls, h1, h2⟩ := parts_c d (s ++ [c]) hd
      obtain ⟨l', ls', h3, h4⟩ := parts_c d s hd
      rw [List.cons_append, h2]
      rw [ih] at h1
      have h5 := pIn_pOp s
      rw [h3] at h5
      cases hp : pIn s with
      | nil =>
        rw [hp] at h1 h5
        injection h1 with h1 h6
        injection h5 with h5 h7
        subst h6; subst h7
        have e : parts (d :: s) = [] ++ [d :: l'] := h4
        obtain ⟨e1, e2⟩ := pIn_of e
        rw [e1, e2, ← h1, h5]; rfl
      | cons q qs =>
        rw [hp] at h1 h5
        injection h1 with h1 h6
        injection h5 with h5 h7
        have e : parts (d :: s) = ((d :: q) :: qs) ++ [pOp s] := by rw [h4, h7, h5]; rfl
        obtain ⟨e1, e2⟩ := pIn_of e
        rw [e1, e2, ← h1, ← h6]; rfl
theorem pIn_c (s : B) (c : UInt8) (h : c ≠ 10) : pIn (s ++ [c]) = pIn s ∧ pOp (s ++ [c]) = pOp s ++ [c] := pIn_of (parts_snoc s c h)

/-- the document's lines -/
def dLines (s : B) : List B := if pOp s = [] then pIn s else pIn s ++ [pOp s]
theorem dLines_pLines (s : B) : pLines (dLines s) = pLines (parts s) := by
  unfold dLines
  rw [pIn_pOp s]
  split
  · rename_i h
    rw [h, pLines_app]
    cases pLines (pIn s) with
    | none => rfl
    | some x => simp [pLines, says]
  · rfl
theorem dLines_length (s : B) : (dLines s).length = nLines s := by
  have h1 := parts_count s
  have h2 := parts_last s
  rw [pIn_pOp s] at h1
  unfold dLines nLines
  have h3 : pOp s = [] ↔ s = [] ∨ s.getLast? = some 10 := h2
  simp only [List.length_append, List.length_singleton] at h1
  by_cases h : pOp s = []
  · rw [if_pos h, if_pos (h3.1 h)]; omega
  · rw [if_neg h, if_neg (fun q => h (h3.2 q)), List.length_append, List.length_singleton]; omega

/-- the document's answer is the program's -/
def rParse (eL eS : Nat) (t : B) : List Cmd × Nat := if 65536 < t.length ∨ 1024 < (dLines t).length then ([], eL) else match pLines (dLines t) with | none => ([], eS) | some l => (l, 0)
theorem rParse_same (eL eS : Nat) (t : B) : rParse eL eS t = parseS eL eS t := by
  unfold rParse parseS
  rw [dLines_length, dLines_pLines]
  by_cases h : tooLong t
  · have h' : 65536 < t.length ∨ 1024 < nLines t := h
    rw [if_pos h, if_pos h']
  · have h' : ¬ (65536 < t.length ∨ 1024 < nLines t) := h
    rw [if_neg h, if_neg h']
end Go.Mine.Sc
