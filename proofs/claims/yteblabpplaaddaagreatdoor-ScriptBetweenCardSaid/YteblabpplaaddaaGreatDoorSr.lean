/- A line of a script: the document's way and the program's give the same command: plain. -/
import Derived.Test.YteblabpplaaddaaGreatDoorSn
set_option linter.unusedVariables false
set_option linter.unusedSimpArgs false
namespace Go.Mine.Sc
open Go.Lib

def rText (t : B) : Option (B × B) :=
  match t with
  | [] => none
  | d :: t1 => if d = 34 then qf [] t1 else none

theorem rNum_lt {t : B} {n : Int} {r : B} (h : rNum t = some (n, r)) : r.length ≤ t.length := by
  obtain ⟨rfl, -, -⟩ := rNum_some h
  simp
theorem rText_lt {t x r : B} (h : rText t = some (x, r)) : r.length ≤ t.length := by
  cases t with
  | nil => simp [rText] at h
  | cons d t =>
    simp only [rText] at h
    split at h
    · have := qf_lt _ _ _ _ _ (Nat.le_refl _) h
      simp; omega
    · simp at h

/-- what of the pattern is next, and what comes again -/
def nextW (rem ag : B) : B × B := if rem.head? = some 42 then ([], rem.tail) else (rem, ag)

/-- the words behind a name: rem: what of the pattern is left; again: what comes again -/
def rwords (rem again : B) (s : B) : Option (List Int × List B) :=
  match s with
  | [] => if (nextW rem again).1 = [] then some ([], []) else none
  | d :: t =>
    match (if (nextW rem again).1 = [] then (nextW rem again).2 else (nextW rem again).1) with
    | [] => none
    | c :: ps =>
      if d = 32 then
        if c = 110 then
          match h : rNum t with
          | none => none
          | some (n, r) => (rwords ps (nextW rem again).2 r).map fun q => (n :: q.1, q.2)
        else
          match h : rText t with
          | none => none
          | some (x, r) => (rwords ps (nextW rem again).2 r).map fun q => (q.1, x :: q.2)
      else none
termination_by s.length
decreasing_by
  · have := rNum_lt h; simp; omega
  · have := rText_lt h; simp; omega

theorem rw_nil (rem ag : B) : rwords rem ag [] = if (nextW rem ag).1 = [] then some ([], []) else none := by rw [rwords.eq_def]
theorem rw_cons (rem ag : B) (d : UInt8) (t : B) : rwords rem ag (d :: t) =
    match (if (nextW rem ag).1 = [] then (nextW rem ag).2 else (nextW rem ag).1) with
    | [] => none
    | c :: ps =>
      if d = 32 then
        if c = 110 then
          match rNum t with
          | none => none
          | some (n, r) => (rwords ps (nextW rem ag).2 r).map fun q => (n :: q.1, q.2)
        else
          match rText t with
          | none => none
          | some (x, r) => (rwords ps (nextW rem ag).2 r).map fun q => (q.1, x :: q.2)
      else none := by
  rw [rwords.eq_def]
  simp only []
  generalize (if (nextW rem ag).1 = [] then (nextW rem ag).2 else (nextW rem ag).1) = l
  cases l with
  | nil => rfl
  | cons c ps =>
    simp only []
    by_cases hd : d = 32
    · rw [if_pos hd, if_pos hd]
      by_cases hc : c = 110
      · rw [if_pos hc, if_pos hc]
        split
        · rename_i h; rw [h]
        · rename_i h; rw [h]
      · rw [if_neg hc, if_neg hc]
        split
        · rename_i h; rw [h]
        · rename_i h; rw [h]
    · rw [if_neg hd, if_neg hd]

theorem rw_star (a ag s : B) : rwords (42 :: a) ag s = rwords [] a s := by
  cases s with
  | nil => rw [rw_nil, rw_nil]; simp [nextW]
  | cons d t => rw [rw_cons, rw_cons]; simp [nextW]
theorem rw_end (ag : B) : rwords [] ag [] = some ([], []) := by rw [rw_nil]; simp [nextW]
theorem rw_over (s : B) (h : s ≠ []) : rwords [] [] s = none := by
  cases s with
  | nil => exact absurd rfl h
  | cons d t => rw [rw_cons]; simp [nextW]
theorem rw_again (a s : B) (h : s ≠ []) (ha : a ≠ []) (h42 : a.head? ≠ some 42) : rwords [] a s = rwords a a s := by
  cases s with
  | nil => exact absurd rfl h
  | cons d t => rw [rw_cons, rw_cons]; simp [nextW, ha, h42]
theorem rw_short (c : UInt8) (ps ag : B) (hc : c ≠ 42) : rwords (c :: ps) ag [] = none := by
  rw [rw_nil]; simp [nextW, hc]
theorem rw_stuck (rem ag s : B) (h : s ≠ []) (h32 : s.head? ≠ some 32) : rwords rem ag s = none := by
  cases s with
  | nil => exact absurd rfl h
  | cons d t =>
    have hd : d ≠ 32 := by simpa using h32
    rw [rw_cons]
    generalize (if (nextW rem ag).1 = [] then (nextW rem ag).2 else (nextW rem ag).1) = l
    cases l with
    | nil => rfl
    | cons c ps => simp only [hd, if_false]

theorem rw_n (ps ag s : B) : rwords (110 :: ps) ag s = match pNum s with | none => none | some (n, r) => (rwords ps ag r).map fun q => (n :: q.1, q.2) := by
  cases s with
  | nil => rw [rw_short _ _ _ (by decide)]; rfl
  | cons d t =>
    by_cases hd : d = 32
    · subst hd
      have e : rwords (110 :: ps) ag (32 :: t) = match rNum t with | none => none | some (n, r) => (rwords ps ag r).map fun q => (n :: q.1, q.2) := by
        rw [rw_cons]
        rfl
      rw [e]
      cases hr : rNum t with
      | none =>
        cases hp : pNum (32 :: t) with
        | none => rfl
        | some p => rw [(pNum_rNum hp).1] at hr; simp at hr
      | some p =>
        obtain ⟨n, r⟩ := p
        by_cases hh : r = [] ∨ r.head? = some 32
        · rw [rNum_pNum hr hh]
        · have hst : rwords ps ag r = none := rw_stuck _ _ _ (fun q => hh (.inl q)) (fun q => hh (.inr q))
          simp only [hst, Option.map_none]
          cases hp : pNum (32 :: t) with
          | none => rfl
          | some p' =>
            obtain ⟨n', r'⟩ := p'
            have h1 := (pNum_rNum hp).1
            rw [hr] at h1
            simp only [Option.some.injEq, Prod.mk.injEq] at h1
            obtain ⟨rfl, rfl⟩ := h1
            simp only [hst, Option.map_none]
    · rw [rw_stuck _ _ _ (by simp) (by simpa using hd)]
      simp [pNum, hd]

theorem rw_q (ps ag s : B) : rwords (113 :: ps) ag s = match pText s with | none => none | some (x, r) => (rwords ps ag r).map fun q => (q.1, x :: q.2) := by
  cases s with
  | nil => rw [rw_short _ _ _ (by decide)]; rfl
  | cons d t =>
    by_cases hd : d = 32
    · subst hd
      have e : rwords (113 :: ps) ag (32 :: t) = match rText t with | none => none | some (x, r) => (rwords ps ag r).map fun q => (q.1, x :: q.2) := by
        rw [rw_cons]
        rfl
      rw [e]
      have : rText t = pText (32 :: t) := by
        cases t with
        | nil => rfl
        | cons d t => simp [rText, pText]
      rw [this]
    · rw [rw_stuck _ _ _ (by simp) (by simpa using hd)]
      cases t with
      | nil => rfl
      | cons e t => simp [pText, hd]

theorem rw_nums : ∀ (k : Nat) (s : B), s.length ≤ k → rwords [] [110] s = (pNums s).map fun l => (l, [])
  | 0, s, h => by
    have : s = [] := List.eq_nil_of_length_eq_zero (by omega)
    subst this
    rw [rw_end, pNums_nil]; rfl
  | k + 1, s, h => by
    by_cases hs : s = []
    · subst hs; rw [rw_end, pNums_nil]; rfl
    · rw [rw_again _ _ hs (by simp) (by simp), rw_n]
      cases hp : pNum s with
      | none => rw [pNums_none hs hp]; rfl
      | some p =>
        obtain ⟨n, r⟩ := p
        have := pNum_lt hp
        simp only []
        rw [rw_nums k r (by omega), pNums_some hp]
        cases pNums r <;> rfl

def fitsN (n : Int) : Prop := 0 ≤ n ∧ n < 4294967296
instance (n : Int) : Decidable (fitsN n) := inferInstanceAs (Decidable (_ ∧ _))

/-- entries out of their words -/
def treeOf : List Int → List B → Option (List (B × Int))
  | n :: ns, x :: xs => if fitsN n then (treeOf ns xs).map ((x, n) :: ·) else none
  | [], _ => some []
  | _ :: _, [] => none

theorem rw_tree : ∀ (k : Nat) (s : B), s.length ≤ k → (match rwords [] [113, 110] s with | none => none | some q => treeOf q.1 q.2) = pTree s
  | 0, s, h => by
    have : s = [] := List.eq_nil_of_length_eq_zero (by omega)
    subst this
    rw [rw_end, pTree_nil]; rfl
  | k + 1, s, h => by
    by_cases hs : s = []
    · subst hs; rw [rw_end, pTree_nil]; rfl
    · rw [rw_again _ _ hs (by simp) (by simp), rw_q]
      cases hp : pText s with
      | none => rw [pTree_text hs hp]
      | some p =>
        obtain ⟨x, r⟩ := p
        have hlt := pText_lt hp
        simp only []
        rw [rw_n]
        cases hn : pNum r with
        | none =>
          rw [pTree_small hp (by unfold pSmall; rw [hn])]
          rfl
        | some p2 =>
          obtain ⟨n, r2⟩ := p2
          have hlt2 := pNum_lt hn
          have ih := rw_tree k r2 (by omega)
          simp only []
          by_cases hf : 0 ≤ n ∧ n < 4294967296
          · rw [pTree_some hp (by unfold pSmall; rw [hn]; simp only []; rw [if_pos hf]), ← ih]
            cases hw : rwords [] [113, 110] r2 with
            | none => rfl
            | some q =>
              simp only [Option.map_some, treeOf]
              rw [if_pos (show fitsN n from hf)]
          · rw [pTree_small hp (by unfold pSmall; rw [hn]; simp only []; rw [if_neg hf])]
            cases hw : rwords [] [113, 110] r2 with
            | none => rfl
            | some q =>
              simp only [Option.map_some, treeOf]
              rw [if_neg (show ¬ fitsN n from hf)]

/-- the document's kinds -/
def rkind (name : B) : Int := if kindIn cnames name ≠ 0 then kindIn cnames name else if kindIn qnames name ≠ 0 then 100 + kindIn qnames name else 0
def patt (k : Int) : B :=
  if k = 1 then [110, 110, 110, 110, 110, 110]
  else if k = 2 then [42, 113, 110]
  else if k = 3 ∨ k = 8 then [110, 42, 110]
  else if k = 7 ∨ k = 111 ∨ k = 112 then [110]
  else if k = 9 then [113, 110, 113]
  else if k = 10 then [113]
  else if k = 11 then [113, 110]
  else if k = 101 ∨ k = 103 ∨ k = 104 then [110, 110]
  else if k = 102 ∨ k = 105 ∨ k = 106 then [42, 110]
  else if k = 107 ∨ k = 108 then [110, 113]
  else if k = 109 ∨ k = 110 then [110, 110, 110]
  else []
/-- a question out of its words -/
def askedOf (k : Int) (nums : List Int) (texts : List B) : Cmd :=
  if k = 2 ∨ k = 5 ∨ k = 6 then { kind := 12, ask := { kind := k, ids := nums } }
  else { kind := 12, ask := { kind := k, a := nums.getD 0 0, b := nums.getD 1 0, limit := nums.getD 2 0, path := texts.getD 0 [] } }
/-- a command out of its words -/
def cmdOf (k : Int) (nums : List Int) (texts : List B) : Option Cmd :=
  if k = 0 then none
  else if 100 < k then some (askedOf (k - 100) nums texts)
  else if k = 1 then (if fitsN (nums.getD 4 0) then some { kind := 1, nums := nums } else none)
  else if k = 2 then (treeOf nums texts).map fun l => { kind := 2, tree := l }
  else if k = 9 then some { kind := 9, nums := nums, text := texts.getD 0 [], more := texts.getD 1 [] }
  else if k = 10 ∨ k = 11 then some { kind := k, nums := nums, text := texts.getD 0 [] }
  else some { kind := k, nums := nums }
/-- the document's line -/
def rLine (s : B) : Option Cmd :=
  match rwords (patt (rkind (tok s))) [] (aft s) with
  | none => none
  | some q => cmdOf (rkind (tok s)) q.1 q.2

theorem kindIn_mem (l : List (Int × B)) (name : B) : kindIn l name = 0 ∨ kindIn l name ∈ l.map (·.1) := by
  unfold kindIn
  cases h : l.find? (fun p => p.2 == name) with
  | none => exact .inl rfl
  | some p => exact .inr (List.mem_map_of_mem (List.mem_of_find?_eq_some h))

theorem line_same (s : B) : rLine s = pLine s := by
  unfold rLine pLine rkind
  generalize aft s = r
  generalize tok s = nm
  have hc := kindIn_mem cnames nm
  have hq := kindIn_mem qnames nm
  generalize hck : kindIn cnames nm = ck at *
  generalize hqk : kindIn qnames nm = qk at *
  simp only [cnames, List.map_cons, List.map_nil, List.mem_cons, List.not_mem_nil, or_false] at hc
  have endw : ∀ s : B, rwords [] [] s = if s = [] then some ([], []) else none := fun s => by
    by_cases h : s = []
    · subst h; rw [rw_end]; rfl
    · rw [rw_over _ h, if_neg h]
  rcases hc with rfl | rfl | rfl | rfl | rfl | rfl | rfl | rfl | rfl | rfl | rfl | rfl | rfl | rfl
  · -- a question, or nothing
    clear hck
    simp only [qnames, List.map_cons, List.map_nil, List.mem_cons, List.not_mem_nil, or_false] at hq
    rcases hq with rfl | rfl | rfl | rfl | rfl | rfl | rfl | rfl | rfl | rfl | rfl | rfl | rfl
    · simp [patt, cmdOf, pBody, hqk, pQues, endw, ends]
      split <;> rfl
    all_goals
      simp [patt, cmdOf, pBody, hqk, pQues, endw, rw_n, rw_q, rw_star, rw_nums _ _ (Nat.le_refl _)]
      first
        | (rcases pNum r with _ | ⟨a, r1⟩
           · simp [ends]
           · by_cases h : r1 = [] <;> simp [h, ends, askedOf])
        | (rcases pNum r with _ | ⟨a, r1⟩
           · simp [ends]
           · rcases h1 : pNum r1 with _ | ⟨b, r2⟩
             · simp [ends, h1]
             · by_cases h : r2 = [] <;> simp [h, h1, ends, askedOf])
        | (rcases pNum r with _ | ⟨a, r1⟩
           · simp [ends]
           · rcases h1 : pText r1 with _ | ⟨b, r2⟩
             · simp [ends, h1]
             · by_cases h : r2 = [] <;> simp [h, h1, ends, askedOf])
        | (rcases pNum r with _ | ⟨a, r1⟩
           · simp [ends]
           · rcases h1 : pNum r1 with _ | ⟨b, r2⟩
             · simp [ends, h1]
             · rcases h2 : pNum r2 with _ | ⟨c, r3⟩
               · simp [ends, h1, h2]
               · by_cases h : r3 = [] <;> simp [h, h1, h2, ends, askedOf])
        | (rcases pNums r with _ | l
           · simp [ends]
           · simp [ends, askedOf])
  · simp [patt, cmdOf, pBody, endw, rw_n, pMany]
    rcases pNum r with _ | ⟨a, r1⟩
    · simp [ends]
    rcases h1 : pNum r1 with _ | ⟨a1, r2⟩
    · simp [ends, h1]
    rcases h2 : pNum r2 with _ | ⟨a2, r3⟩
    · simp [ends, h1, h2]
    rcases h3 : pNum r3 with _ | ⟨a3, r4⟩
    · simp [ends, h1, h2, h3]
    rcases h4 : pNum r4 with _ | ⟨a4, r5⟩
    · simp [ends, h1, h2, h3, h4]
    rcases h5 : pNum r5 with _ | ⟨a5, r6⟩
    · simp [ends, h1, h2, h3, h4, h5]
    by_cases h : r6 = []
    · by_cases hf : fitsN a4
      · have hf' : 0 ≤ a4 ∧ a4 < 4294967296 := hf
        simp [h, h1, h2, h3, h4, h5, ends, hf, hf']
      · have hf' : ¬ (0 ≤ a4 ∧ a4 < 4294967296) := hf
        simp [h, h1, h2, h3, h4, h5, ends, hf, hf']
    · by_cases hf : fitsN a4
      · have hf' : 0 ≤ a4 ∧ a4 < 4294967296 := hf
        simp [h, h1, h2, h3, h4, h5, ends, hf']
      · have hf' : ¬ (0 ≤ a4 ∧ a4 < 4294967296) := hf
        simp [h, h1, h2, h3, h4, h5, ends, hf']
  · simp [patt, cmdOf, pBody, rw_star]
    rw [← rw_tree _ _ (Nat.le_refl _)]
    rcases rwords [] [113, 110] r with _ | q
    · simp [ends]
    · rcases h : treeOf q.1 q.2 with _ | l
      · simp [ends, h]
      · simp [ends, h]
  · simp [patt, cmdOf, pBody, rw_n, rw_star, rw_nums _ _ (Nat.le_refl _)]
    rcases pNum r with _ | ⟨a, r1⟩
    · simp [ends]
    · rcases h : pNums r1 with _ | l <;> simp [ends, h]
  · simp [patt, cmdOf, pBody, endw, ends]
    by_cases h : r = [] <;> simp [h]
  · simp [patt, cmdOf, pBody, endw, ends]
    by_cases h : r = [] <;> simp [h]
  · simp [patt, cmdOf, pBody, endw, ends]
    by_cases h : r = [] <;> simp [h]
  · simp [patt, cmdOf, pBody, endw, rw_n]
    rcases pNum r with _ | ⟨a, r1⟩
    · simp [ends]
    · by_cases h : r1 = [] <;> simp [h, ends]
  · simp [patt, cmdOf, pBody, rw_n, rw_star, rw_nums _ _ (Nat.le_refl _)]
    rcases pNum r with _ | ⟨a, r1⟩
    · simp [ends]
    · rcases h : pNums r1 with _ | l <;> simp [ends, h]
  · simp [patt, cmdOf, pBody, endw, rw_n, rw_q]
    rcases pText r with _ | ⟨x, r1⟩
    · simp [ends]
    rcases h1 : pNum r1 with _ | ⟨n, r2⟩
    · simp [ends, h1]
    rcases h2 : pText r2 with _ | ⟨y, r3⟩
    · simp [ends, h1, h2]
    by_cases h : r3 = [] <;> simp [h, h1, h2, ends]
  · simp [patt, cmdOf, pBody, endw, rw_q]
    rcases pText r with _ | ⟨x, r1⟩
    · simp [ends]
    by_cases h : r1 = [] <;> simp [h, ends]
  · simp [patt, cmdOf, pBody, endw, rw_n, rw_q]
    rcases pText r with _ | ⟨x, r1⟩
    · simp [ends]
    rcases h1 : pNum r1 with _ | ⟨n, r2⟩
    · simp [ends, h1]
    by_cases h : r2 = [] <;> simp [h, h1, ends]
  · simp [patt, cmdOf, pBody, endw, ends]
    by_cases h : r = [] <;> simp [h]
  · simp [patt, cmdOf, pBody, endw, ends]
    by_cases h : r = [] <;> simp [h]
end Go.Mine.Sc
