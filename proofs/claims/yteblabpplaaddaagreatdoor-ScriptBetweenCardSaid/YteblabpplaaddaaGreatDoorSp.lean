/- A line of a script, read: the program's way, plain. -/
import Derived.Lib.AtoiTie
import Derived.Lib.ItoaMem
import Derived.Lib.ItoaLen
set_option linter.unusedVariables false
set_option linter.unusedSimpArgs false
namespace Go.Mine.Sc
open Go.Lib

abbrev B := List UInt8

/-- up to the first blank; from it on -/
def tok (s : B) : B := s.takeWhile (fun c => c != 32)
def aft (s : B) : B := s.dropWhile (fun c => c != 32)
theorem tok_aft (s : B) : tok s ++ aft s = s := List.takeWhile_append_dropWhile
theorem aft_le (s : B) : (aft s).length ≤ s.length := by
  have := congrArg List.length (tok_aft s)
  simp at this; omega

/-- a number's own form -/
def canon (d : B) : Option Int :=
  match atoiAll d with
  | .ok n => if itoa n = d then some n else none
  | _ => none

/-- a blank and a number -/
def pNum (s : B) : Option (Int × B) :=
  match s with
  | [] => none
  | c :: t => if c = 32 then (canon (tok t)).map fun n => (n, aft t) else none

theorem pNum_lt {s : B} {n : Int} {r : B} (h : pNum s = some (n, r)) : r.length < s.length := by
  cases s with
  | nil => simp [pNum] at h
  | cons c t =>
    simp only [pNum] at h
    split at h
    · obtain ⟨m, -, h2⟩ := Option.map_eq_some_iff.1 h
      injection h2 with h2 h3
      subst h3
      have := aft_le t
      simp; omega
    · simp at h

/-- all numbers that are left -/
def pNums (s : B) : Option (List Int) :=
  if s = [] then some []
  else match h : pNum s with
    | none => none
    | some (n, r) => (pNums r).map (n :: ·)
termination_by s.length
decreasing_by exact pNum_lt h

theorem pNums_nil : pNums [] = some [] := by rw [pNums]; simp
theorem pNums_none {s : B} (hs : s ≠ []) (h : pNum s = none) : pNums s = none := by
  rw [pNums, if_neg hs]
  split
  · rfl
  · rename_i h2; rw [h] at h2; simp at h2
theorem pNums_some {s : B} {n : Int} {r : B} (h : pNum s = some (n, r)) : pNums s = (pNums r).map (n :: ·) := by
  have hs : s ≠ [] := by rintro rfl; simp [pNum] at h
  rw [pNums, if_neg hs]
  split
  · rename_i h2; rw [h] at h2; simp at h2
  · rename_i n' r' h2
    rw [h] at h2
    simp only [Option.some.injEq, Prod.mk.injEq] at h2
    obtain ⟨rfl, rfl⟩ := h2
    rfl

/-- a digit of base sixteen -/
def hexv (c : UInt8) : Option UInt8 := if 48 ≤ c ∧ c ≤ 57 then some (c - 48) else if 97 ≤ c ∧ c ≤ 102 then some (c - 97 + 10) else none

/-- what stands behind a backslash: the byte, and how long it is -/
def esc (r : B) : Option (UInt8 × Nat) :=
  match r with
  | [] => none
  | c :: r1 =>
    if c = 34 then some (34, 1) else if c = 92 then some (92, 1)
    else if c = 120 then
      match r1 with
      | a :: b :: _ => (match hexv a, hexv b with | some p, some q => some (16 * p + q, 3) | _, _ => none)
      | _ => none
    else none

/-- a quoted text behind its first quote -/
def qf (acc : B) (s : B) : Option (B × B) :=
  match s with
  | [] => none
  | c :: r =>
    if c = 34 then some (acc, r)
    else if c < 32 ∨ 126 < c then none
    else if c = 92 then
      match esc r with
      | none => none
      | some (x, n) => qf (acc ++ [x]) (r.drop n)
    else qf (acc ++ [c]) r
termination_by s.length
decreasing_by all_goals (simp; try omega)

theorem qf_nil (acc : B) : qf acc [] = none := by rw [qf]
theorem qf_end (acc r : B) : qf acc (34 :: r) = some (acc, r) := by rw [qf]; simp
theorem qf_bad (acc r : B) (c : UInt8) (h : c < 32 ∨ 126 < c) : qf acc (c :: r) = none := by
  rw [qf, if_neg (by rintro rfl; revert h; decide), if_pos h]
theorem qf_esc_none (acc r : B) (h : esc r = none) : qf acc (92 :: r) = none := by
  rw [qf, if_neg (by decide), if_neg (by decide), if_pos rfl, h]
theorem qf_esc (acc r : B) (x : UInt8) (n : Nat) (h : esc r = some (x, n)) : qf acc (92 :: r) = qf (acc ++ [x]) (r.drop n) := by
  rw [qf, if_neg (by decide), if_neg (by decide), if_pos rfl, h]
theorem qf_plain (acc r : B) (c : UInt8) (h1 : c ≠ 34) (h2 : ¬ (c < 32 ∨ 126 < c)) (h3 : c ≠ 92) : qf acc (c :: r) = qf (acc ++ [c]) r := by
  rw [qf, if_neg h1, if_neg h2, if_neg h3]

theorem qf_lt : ∀ (k : Nat) (acc s x r : B), s.length ≤ k → qf acc s = some (x, r) → r.length < s.length
  | 0, acc, s, x, r, hk, h => by
    have : s = [] := List.eq_nil_of_length_eq_zero (by omega)
    subst this; rw [qf_nil] at h; simp at h
  | k + 1, acc, [], x, r, hk, h => by rw [qf_nil] at h; simp at h
  | k + 1, acc, c :: t, x, r, hk, h => by
    simp only [List.length_cons] at hk ⊢
    rw [qf] at h
    split at h
    · simp only [Option.some.injEq, Prod.mk.injEq] at h; obtain ⟨-, rfl⟩ := h; omega
    · split at h
      · simp at h
      · split at h
        · split at h
          · simp at h
          · rename_i n hn
            have := qf_lt k _ _ _ _ (by simp; omega) h
            simp at this; omega
        · have := qf_lt k _ _ _ _ (by omega) h
          omega

/-- a blank and a quoted text -/
def pText (s : B) : Option (B × B) :=
  match s with
  | c :: d :: r => if c = 32 ∧ d = 34 then qf [] r else none
  | _ => none

theorem pText_lt {s x r : B} (h : pText s = some (x, r)) : r.length < s.length := by
  match s, h with
  | [], h => simp [pText] at h
  | [c], h => simp [pText] at h
  | c :: d :: t, h =>
    simp only [pText] at h
    split at h
    · have := qf_lt _ _ _ _ _ (Nat.le_refl _) h
      simp; omega
    · simp at h

/-- a blank and a number of 32 bits -/
def pSmall (s : B) : Option (Int × B) :=
  match pNum s with
  | some (n, r) => if 0 ≤ n ∧ n < 4294967296 then some (n, r) else none
  | none => none

theorem pSmall_num {s : B} {n : Int} {r : B} (h : pSmall s = some (n, r)) : pNum s = some (n, r) ∧ 0 ≤ n ∧ n < 4294967296 := by
  unfold pSmall at h
  split at h
  · rename_i m t hm
    split at h
    · rename_i hb
      simp only [Option.some.injEq, Prod.mk.injEq] at h
      obtain ⟨rfl, rfl⟩ := h
      exact ⟨hm, hb⟩
    · simp at h
  · simp at h

/-- entries, all that are left -/
def pTree (s : B) : Option (List (B × Int)) :=
  if s = [] then some []
  else match h : pText s with
    | none => none
    | some (x, r) => match h2 : pSmall r with
      | none => none
      | some (n, r2) => (pTree r2).map ((x, n) :: ·)
termination_by s.length
decreasing_by have := pText_lt h; have := pNum_lt (pSmall_num h2).1; omega

theorem pTree_nil : pTree [] = some [] := by rw [pTree]; simp
theorem pTree_text {s : B} (hs : s ≠ []) (h : pText s = none) : pTree s = none := by
  rw [pTree, if_neg hs]
  split
  · rfl
  · rename_i h2; rw [h] at h2; simp at h2
theorem pTree_small {s x r : B} (h : pText s = some (x, r)) (h2 : pSmall r = none) : pTree s = none := by
  have hs : s ≠ [] := by rintro rfl; simp [pText] at h
  rw [pTree, if_neg hs]
  split
  · rfl
  · rename_i x' r' h3
    rw [h] at h3
    simp only [Option.some.injEq, Prod.mk.injEq] at h3
    obtain ⟨rfl, rfl⟩ := h3
    split
    · rfl
    · rename_i h4; rw [h2] at h4; simp at h4
theorem pTree_some {s x r : B} {n : Int} {r2 : B} (h : pText s = some (x, r)) (h2 : pSmall r = some (n, r2)) : pTree s = (pTree r2).map ((x, n) :: ·) := by
  have hs : s ≠ [] := by rintro rfl; simp [pText] at h
  rw [pTree, if_neg hs]
  split
  · rename_i h3; rw [h] at h3; simp at h3
  · rename_i x' r' h3
    rw [h] at h3
    simp only [Option.some.injEq, Prod.mk.injEq] at h3
    obtain ⟨rfl, rfl⟩ := h3
    split
    · rename_i h4; rw [h2] at h4; simp at h4
    · rename_i n' r2' h4
      rw [h2] at h4
      simp only [Option.some.injEq, Prod.mk.injEq] at h4
      obtain ⟨rfl, rfl⟩ := h4
      rfl

/-- a question -/
structure Ques where
  kind : Int := 0
  a : Int := 0
  b : Int := 0
  limit : Int := 0
  ids : List Int := []
  path : B := []
  deriving DecidableEq

/-- a command -/
structure Cmd where
  kind : Int := 0
  nums : List Int := []
  text : B := []
  more : B := []
  tree : List (B × Int) := []
  ask : Ques := {}
  deriving DecidableEq

def bstr (s : String) : B := s.toUTF8.data.toList

/-- the commands' names by their kinds -/
def cnames : List (Int × B) :=
  [(1, [100, 105, 115, 107]), (2, [116, 114, 101, 101]), (3, [99, 111, 109, 109, 105, 116]), (4, [117, 112, 100, 97, 116, 101]), (5, [99, 111, 109, 112, 97, 99, 116]),
   (6, [114, 101, 108, 111, 97, 100]), (7, [102, 97, 108, 108]), (8, [99, 114, 97, 115, 104]), (9, [100, 97, 109, 97, 103, 101]), (10, [114, 101, 109, 111, 118, 101]),
   (11, [99, 117, 116]), (13, [102, 105, 108, 101, 115]), (14, [99, 111, 117, 110, 116, 115])]
/-- the questions' -/
def qnames : List (Int × B) :=
  [(1, [97, 110, 99, 101, 115, 116, 111, 114]), (2, [114, 101, 97, 99, 104]), (3, [111, 110, 108, 121]), (4, [98, 97, 115, 101, 115]), (5, [109, 97, 110, 121]),
   (6, [105, 110, 100, 101, 112, 101, 110, 100, 101, 110, 116]), (7, [104, 105, 115, 116, 111, 114, 121]), (8, [108, 97, 115, 116]), (9, [118, 105, 114, 116, 117, 97, 108]),
   (10, [109, 101, 114, 103, 101]), (11, [99, 111, 110, 116, 101, 110, 116]), (12, [112, 97, 114, 101, 110, 116, 115])]
theorem cnames_are : cnames = [(1, bstr "disk"), (2, bstr "tree"), (3, bstr "commit"), (4, bstr "update"), (5, bstr "compact"), (6, bstr "reload"), (7, bstr "fall"), (8, bstr "crash"), (9, bstr "damage"), (10, bstr "remove"), (11, bstr "cut"), (13, bstr "files"), (14, bstr "counts")] := by decide +kernel
theorem qnames_are : qnames = [(1, bstr "ancestor"), (2, bstr "reach"), (3, bstr "only"), (4, bstr "bases"), (5, bstr "many"), (6, bstr "independent"), (7, bstr "history"), (8, bstr "last"), (9, bstr "virtual"), (10, bstr "merge"), (11, bstr "content"), (12, bstr "parents")] := by decide +kernel

/-- the kind of a name; 0: none -/
def kindIn (l : List (Int × B)) (name : B) : Int := match l.find? (fun p => p.2 == name) with | some p => p.1 | none => 0

/-- a question behind its name -/
def pQues (k : Int) (s : B) : Option (Ques × B) :=
  if k = 1 ∨ k = 3 ∨ k = 4 then
    match pNum s with
    | none => none
    | some (a, r) => match pNum r with
      | none => none
      | some (b, r2) => some ({ kind := k, a := a, b := b }, r2)
  else if k = 2 ∨ k = 5 ∨ k = 6 then (pNums s).map fun l => ({ kind := k, ids := l }, [])
  else if k = 7 ∨ k = 8 then
    match pNum s with
    | none => none
    | some (a, r) => match pText r with
      | none => none
      | some (x, r2) => some ({ kind := k, a := a, path := x }, r2)
  else if k = 9 ∨ k = 10 then
    match pNum s with
    | none => none
    | some (a, r) => match pNum r with
      | none => none
      | some (b, r2) => match pNum r2 with
        | none => none
        | some (c, r3) => some ({ kind := k, a := a, b := b, limit := c }, r3)
  else if k = 11 ∨ k = 12 then (pNum s).map fun p => ({ kind := k, a := p.1 }, p.2)
  else none

/-- n numbers, one behind the other -/
def pMany : Nat → B → Option (List Int × B)
  | 0, s => some ([], s)
  | n + 1, s => match pNum s with
    | none => none
    | some (a, r) => (pMany n r).map fun p => (a :: p.1, p.2)

/-- what stands behind a command's name -/
def pBody (k : Int) (name s : B) : Option (Cmd × B) :=
  if k = 1 then
    match pMany 6 s with
    | none => none
    | some (l, r) => if 0 ≤ l.getD 4 0 ∧ l.getD 4 0 < 4294967296 then some ({ kind := 1, nums := l }, r) else none
  else if k = 2 then (pTree s).map fun l => ({ kind := 2, tree := l }, [])
  else if k = 3 ∨ k = 8 then
    match pNum s with
    | none => none
    | some (a, r) => (pNums r).map fun l => ({ kind := k, nums := a :: l }, [])
  else if k = 7 then (pNum s).map fun p => ({ kind := 7, nums := [p.1] }, p.2)
  else if k = 9 then
    match pText s with
    | none => none
    | some (x, r) => match pNum r with
      | none => none
      | some (n, r2) => (pText r2).map fun p => ({ kind := 9, nums := [n], text := x, more := p.1 }, p.2)
  else if k = 10 then (pText s).map fun p => ({ kind := 10, text := p.1 }, p.2)
  else if k = 11 then
    match pText s with
    | none => none
    | some (x, r) => (pNum r).map fun p => ({ kind := 11, nums := [p.1], text := x }, p.2)
  else if k = 0 then (pQues (kindIn qnames name) s).map fun p => ({ kind := 12, ask := p.1 }, p.2)
  else some ({ kind := k }, s)

/-- nothing is left -/
def ends : Option (Cmd × B) → Option Cmd
  | none => none
  | some p => if p.2 = [] then some p.1 else none
/-- a line's command -/
def pLine (s : B) : Option Cmd := ends (pBody (kindIn cnames (tok s)) (tok s) (aft s))
end Go.Mine.Sc
