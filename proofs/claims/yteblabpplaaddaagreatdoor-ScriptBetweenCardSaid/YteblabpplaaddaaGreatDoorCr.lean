/- A line's command: the contract of command. -/
import Derived.Test.YteblabpplaaddaaGreatDoorCp
import Derived.Test.YteblabpplaaddaaGreatDoorCq
set_option linter.unusedVariables false
set_option linter.unusedSimpArgs false
namespace Go.Proofs.YteblabpplaaddaaGreatDoor
open Go.RowKit Go.Mine Go.Mine.Sc


theorem command_any (w0 w : World) (p : Nat) (s : B) (h : At w0 w p s) : Calls Tryz.prog 30 #[pt p] w (CmdPost w p (pLine s)) := by
  have hm := kindIn_mem cnames (tok s)
  have hl : cnames.map (·.1) = [1, 2, 3, 4, 5, 6, 7, 8, 9, 10, 11, 13, 14] := by decide +kernel
  rw [hl] at hm
  simp only [List.mem_cons, List.not_mem_nil, or_false] at hm
  unfold pLine
  rcases hm with k | k | k | k | k | k | k | k | k | k | k | k | k | k
  · -- a question
    rw [k]
    have e : pBody 0 (tok s) (aft s) = (pQues (kindIn qnames (tok s)) (aft s)).map fun p => ({ kind := 12, ask := p.1 }, p.2) := rfl
    rw [e]
    cases h1 : pQues (kindIn qnames (tok s)) (aft s) with
    | none => exact cmd_0_0 w0 w p s h k h1
    | some q =>
      obtain ⟨q, r⟩ := q
      by_cases hr : r = []
      · subst hr; exact cmd_0_end w0 w p s h k q h1
      · have := cmd_0_on w0 w p s h k q r h1 hr
        simpa [ends, hr] using this
  · rw [k]
    have e : ends (pBody 1 (tok s) (aft s)) = oneOf (pMany 6 (aft s)) := by
      unfold oneOf
      simp only [pBody, if_true]
      cases h1 : pMany 6 (aft s) with
      | none => rfl
      | some q =>
        obtain ⟨l, r⟩ := q
        simp only []
        split
        · rfl
        · rfl
    rw [e]
    exact cmd_1 w0 w p s h k
  · rw [k]
    have e : ends (pBody 2 (tok s) (aft s)) = treeCmd (pTree (aft s)) := by
      unfold treeCmd
      simp only [pBody]
      cases h1 : pTree (aft s) with
      | none => simp [ends]
      | some q => simp [ends]
    rw [e]
    exact cmd_2 w0 w p s h k
  · rw [k]
    cases h1 : pNum (aft s) with
    | none =>
      have e : ends (pBody 3 (tok s) (aft s)) = none := by simp [pBody, h1, ends]
      rw [e]; exact cmd_3_0 w0 w p s h k h1
    | some q =>
      obtain ⟨n, r⟩ := q
      cases h2 : pNums r with
      | none =>
        have e : ends (pBody 3 (tok s) (aft s)) = none := by simp [pBody, h1, h2, ends]
        rw [e]; exact cmd_3_1 w0 w p s h k n r h1 h2
      | some l =>
        have e : ends (pBody 3 (tok s) (aft s)) = some { kind := 3, nums := n :: l } := by simp [pBody, h1, h2, ends]
        rw [e]; exact cmd_3_end w0 w p s h k n r h1 l h2
  · rw [k]
    by_cases hr : aft s = []
    · have e : ends (pBody 4 (tok s) (aft s)) = some { kind := 4 } := by simp [pBody, ends, hr]
      rw [e]; exact cmd_4_end w0 w p s h k hr
    · have e : ends (pBody 4 (tok s) (aft s)) = none := by simp [pBody, ends, hr]
      rw [e]; exact cmd_4_on w0 w p s h k hr
  · rw [k]
    by_cases hr : aft s = []
    · have e : ends (pBody 5 (tok s) (aft s)) = some { kind := 5 } := by simp [pBody, ends, hr]
      rw [e]; exact cmd_5_end w0 w p s h k hr
    · have e : ends (pBody 5 (tok s) (aft s)) = none := by simp [pBody, ends, hr]
      rw [e]; exact cmd_5_on w0 w p s h k hr
  · rw [k]
    by_cases hr : aft s = []
    · have e : ends (pBody 6 (tok s) (aft s)) = some { kind := 6 } := by simp [pBody, ends, hr]
      rw [e]; exact cmd_6_end w0 w p s h k hr
    · have e : ends (pBody 6 (tok s) (aft s)) = none := by simp [pBody, ends, hr]
      rw [e]; exact cmd_6_on w0 w p s h k hr
  · rw [k]
    cases h1 : pNum (aft s) with
    | none =>
      have e : ends (pBody 7 (tok s) (aft s)) = none := by simp [pBody, h1, ends]
      rw [e]; exact cmd_7_0 w0 w p s h k h1
    | some q =>
      obtain ⟨n, r⟩ := q
      by_cases hr : r = []
      · have e : ends (pBody 7 (tok s) (aft s)) = some { kind := 7, nums := [n] } := by simp [pBody, h1, ends, hr]
        rw [e]; exact cmd_7_end w0 w p s h k n r h1 hr
      · have e : ends (pBody 7 (tok s) (aft s)) = none := by simp [pBody, h1, ends, hr]
        rw [e]; exact cmd_7_on w0 w p s h k n r h1 hr
  · rw [k]
    cases h1 : pNum (aft s) with
    | none =>
      have e : ends (pBody 8 (tok s) (aft s)) = none := by simp [pBody, h1, ends]
      rw [e]; exact cmd_8_0 w0 w p s h k h1
    | some q =>
      obtain ⟨n, r⟩ := q
      cases h2 : pNums r with
      | none =>
        have e : ends (pBody 8 (tok s) (aft s)) = none := by simp [pBody, h1, h2, ends]
        rw [e]; exact cmd_8_1 w0 w p s h k n r h1 h2
      | some l =>
        have e : ends (pBody 8 (tok s) (aft s)) = some { kind := 8, nums := n :: l } := by simp [pBody, h1, h2, ends]
        rw [e]; exact cmd_8_end w0 w p s h k n r h1 l h2
  · rw [k]
    cases h1 : pText (aft s) with
    | none =>
      have e : ends (pBody 9 (tok s) (aft s)) = none := by simp [pBody, h1, ends]
      rw [e]; exact cmd_9_0 w0 w p s h k h1
    | some q =>
      obtain ⟨x, r⟩ := q
      cases h2 : pNum r with
      | none =>
        have e : ends (pBody 9 (tok s) (aft s)) = none := by simp [pBody, h1, h2, ends]
        rw [e]; exact cmd_9_1 w0 w p s h k x r h1 h2
      | some q =>
        obtain ⟨n, r2⟩ := q
        cases h3 : pText r2 with
        | none =>
          have e : ends (pBody 9 (tok s) (aft s)) = none := by simp [pBody, h1, h2, h3, ends]
          rw [e]; exact cmd_9_2 w0 w p s h k x r h1 n r2 h2 h3
        | some q =>
          obtain ⟨y, r3⟩ := q
          by_cases hr : r3 = []
          · have e : ends (pBody 9 (tok s) (aft s)) = some { kind := 9, nums := [n], text := x, more := y } := by simp [pBody, h1, h2, h3, ends, hr]
            rw [e]; exact cmd_9_end w0 w p s h k x r h1 n r2 h2 y r3 h3 hr
          · have e : ends (pBody 9 (tok s) (aft s)) = none := by simp [pBody, h1, h2, h3, ends, hr]
            rw [e]; exact cmd_9_on w0 w p s h k x r h1 n r2 h2 y r3 h3 hr
  · rw [k]
    cases h1 : pText (aft s) with
    | none =>
      have e : ends (pBody 10 (tok s) (aft s)) = none := by simp [pBody, h1, ends]
      rw [e]; exact cmd_10_0 w0 w p s h k h1
    | some q =>
      obtain ⟨x, r⟩ := q
      by_cases hr : r = []
      · have e : ends (pBody 10 (tok s) (aft s)) = some { kind := 10, text := x } := by simp [pBody, h1, ends, hr]
        rw [e]; exact cmd_10_end w0 w p s h k x r h1 hr
      · have e : ends (pBody 10 (tok s) (aft s)) = none := by simp [pBody, h1, ends, hr]
        rw [e]; exact cmd_10_on w0 w p s h k x r h1 hr
  · rw [k]
    cases h1 : pText (aft s) with
    | none =>
      have e : ends (pBody 11 (tok s) (aft s)) = none := by simp [pBody, h1, ends]
      rw [e]; exact cmd_11_0 w0 w p s h k h1
    | some q =>
      obtain ⟨x, r⟩ := q
      cases h2 : pNum r with
      | none =>
        have e : ends (pBody 11 (tok s) (aft s)) = none := by simp [pBody, h1, h2, ends]
        rw [e]; exact cmd_11_1 w0 w p s h k x r h1 h2
      | some q =>
        obtain ⟨n, r2⟩ := q
        by_cases hr : r2 = []
        · have e : ends (pBody 11 (tok s) (aft s)) = some { kind := 11, nums := [n], text := x } := by simp [pBody, h1, h2, ends, hr]
          rw [e]; exact cmd_11_end w0 w p s h k x r h1 n r2 h2 hr
        · have e : ends (pBody 11 (tok s) (aft s)) = none := by simp [pBody, h1, h2, ends, hr]
          rw [e]; exact cmd_11_on w0 w p s h k x r h1 n r2 h2 hr
  · rw [k]
    by_cases hr : aft s = []
    · have e : ends (pBody 13 (tok s) (aft s)) = some { kind := 13 } := by simp [pBody, ends, hr]
      rw [e]; exact cmd_13_end w0 w p s h k hr
    · have e : ends (pBody 13 (tok s) (aft s)) = none := by simp [pBody, ends, hr]
      rw [e]; exact cmd_13_on w0 w p s h k hr
  · rw [k]
    by_cases hr : aft s = []
    · have e : ends (pBody 14 (tok s) (aft s)) = some { kind := 14 } := by simp [pBody, ends, hr]
      rw [e]; exact cmd_14_end w0 w p s h k hr
    · have e : ends (pBody 14 (tok s) (aft s)) = none := by simp [pBody, ends, hr]
      rw [e]; exact cmd_14_on w0 w p s h k hr
end Go.Proofs.YteblabpplaaddaaGreatDoor
