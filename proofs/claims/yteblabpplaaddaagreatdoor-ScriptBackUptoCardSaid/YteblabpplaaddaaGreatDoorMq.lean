/- Quoting, lines, texts: plain; the walk of Quote, digits; names. -/
import Derived.Test.YteblabpplaaddaaGreatDoorSr
import Derived.Test.YteblabpplaaddaaGreatDoorSs
import Derived.Test.YteblabpplaaddaaGreatDoorSm
import Derived.Test.YteblabpplaaddaaGreatDoorDq
import Derived.Test.YteblabpplaaddaaGreatDoorRow
import Derived.Lib.ConvBytes
import Derived.Test.YteblabpplaaddaaGreatDoorMx
set_option linter.unusedVariables false
set_option linter.unusedSimpArgs false
namespace Go.Mine.Sc
open Go.Lib

/-! ### A quoted text -/
def hexc (n : UInt8) : UInt8 := if n < 10 then 48 + n else 87 + n
def qch (c : UInt8) : B := if c = 34 ∨ c = 92 then [92, c] else if c < 32 ∨ 126 < c then [92, 120, hexc (c / 16), hexc (c % 16)] else [c]
def qbody (s : B) : B := s.flatMap qch
def quote (s : B) : B := 34 :: (qbody s ++ [34])

theorem qch_fin : ∀ n : Fin 256, (hexv (hexc (UInt8.ofNat n.val / 16)) = some (UInt8.ofNat n.val / 16) ∧ hexv (hexc (UInt8.ofNat n.val % 16)) = some (UInt8.ofNat n.val % 16) ∧ 16 * (UInt8.ofNat n.val / 16) + UInt8.ofNat n.val % 16 = UInt8.ofNat n.val) ∧
    (∀ c ∈ qch (UInt8.ofNat n.val), 32 ≤ c ∧ c ≤ 126) := by decide +kernel
theorem u8_nat (c : UInt8) : UInt8.ofNat c.toNat = c := by simp
theorem qch_hex (c : UInt8) : hexv (hexc (c / 16)) = some (c / 16) ∧ hexv (hexc (c % 16)) = some (c % 16) ∧ 16 * (c / 16) + c % 16 = c := by
  have := (qch_fin ⟨c.toNat, c.toNat_lt⟩).1
  rwa [u8_nat] at this
theorem qch_fit (c : UInt8) : ∀ x ∈ qch c, 32 ≤ x ∧ x ≤ 126 := by
  have := (qch_fin ⟨c.toNat, c.toNat_lt⟩).2
  rwa [u8_nat] at this

theorem qf_qch (acc : B) (c : UInt8) (t : B) : qf acc (qch c ++ t) = qf (acc ++ [c]) t := by
  unfold qch
  split
  · rename_i h
    have : esc (c :: t) = some (c, 1) := by
      rcases h with rfl | rfl <;> rfl
    rw [List.cons_append, List.cons_append, List.nil_append, qf_esc _ _ _ _ this]
    rfl
  · rename_i h
    split
    · obtain ⟨h1, h2, h3⟩ := qch_hex c
      have : esc (120 :: hexc (c / 16) :: hexc (c % 16) :: t) = some (c, 3) := by
        simp only [esc]
        rw [if_neg (by decide), if_neg (by decide), if_pos trivial, h1, h2]
        simp only [h3]
      rw [List.cons_append, List.cons_append, List.cons_append, List.cons_append, List.nil_append, qf_esc _ _ _ _ this]
      rfl
    · rename_i h2
      rw [List.cons_append, List.nil_append, qf_plain _ _ _ (fun q => h (.inl q)) h2 (fun q => h (.inr q))]

theorem qf_qbody : ∀ (s acc t : B), qf acc (qbody s ++ 34 :: t) = some (acc ++ s, t)
  | [], acc, t => by simp [qbody, qf_end]
  | c :: s, acc, t => by
    rw [qbody, List.flatMap_cons, List.append_assoc, qf_qch]
    have := qf_qbody s (acc ++ [c]) t
    rw [qbody] at this
    rw [this]; simp
theorem pText_quote (s t : B) : pText (32 :: (quote s ++ t)) = some (s, t) := by
  have := qf_qbody s [] t
  simp only [quote, List.cons_append, List.append_assoc, List.nil_append, pText]
  simpa using this
theorem quote_fit (s : B) : ∀ x ∈ quote s, 32 ≤ x ∧ x ≤ 126 := by
  intro x hx
  simp only [quote, qbody, List.mem_cons, List.mem_append, List.mem_flatMap, List.not_mem_nil, or_false] at hx
  rcases hx with rfl | ⟨c, -, hc⟩ | rfl
  · decide
  · exact qch_fit c x hc
  · decide
theorem quote_inj {s t : B} (h : quote s = quote t) : s = t := by
  have h1 := pText_quote s []
  rw [h, pText_quote t []] at h1
  injection h1 with h1; injection h1 with h1; exact h1.symm
theorem qch_len (c : UInt8) : 1 ≤ (qch c).length ∧ (qch c).length ≤ 4 := by unfold qch; split; · simp
                                                                            · split <;> simp
theorem qbody_len : ∀ (s : B), s.length ≤ (qbody s).length ∧ (qbody s).length ≤ 4 * s.length
  | [] => by simp [qbody]
  | c :: s => by
    have := qbody_len s
    have := qch_len c
    simp only [qbody, List.flatMap_cons, List.length_append, List.length_cons] at *
    omega
theorem quote_len (s : B) : s.length + 2 ≤ (quote s).length ∧ (quote s).length ≤ 4 * s.length + 2 := by
  have := qbody_len s
  simp [quote]; omega

/-! ### Words -/
/-- words behind a name, a blank ahead of each -/
def tailW (l : List B) : B := l.flatMap fun x => 32 :: x
theorem tailW_nil : tailW [] = [] := rfl
theorem tailW_cons (x : B) (l : List B) : tailW (x :: l) = 32 :: (x ++ tailW l) := by simp [tailW]
theorem tailW_app (a b : List B) : tailW (a ++ b) = tailW a ++ tailW b := by simp [tailW]
theorem tailW_head (l : List B) : tailW l = [] ∨ (tailW l).head? = some 32 := by
  cases l with
  | nil => exact .inl rfl
  | cons x l => exact .inr (by rw [tailW_cons]; rfl)

theorem pNum_itoa {n : Int} (hn : I64 n) {r : B} (hr : r = [] ∨ r.head? = some 32) : pNum (32 :: (itoa n ++ r)) = some (n, r) := rNum_pNum (rNum_itoa n r hn (noDig_of hr)) hr
theorem pNums_tail : ∀ (l : List Int), (∀ n ∈ l, I64 n) → pNums (tailW (l.map itoa)) = some l
  | [], _ => pNums_nil
  | n :: l, h => by
    rw [List.map_cons, tailW_cons, pNums_some (pNum_itoa (h n (List.mem_cons_self ..)) (tailW_head _)), pNums_tail l fun x hx => h x (List.mem_cons_of_mem _ hx)]
    rfl
theorem pMany_tail : ∀ (l : List Int), (∀ n ∈ l, I64 n) → pMany l.length (tailW (l.map itoa)) = some (l, [])
  | [], _ => rfl
  | n :: l, h => by
    rw [List.map_cons, tailW_cons, List.length_cons, pMany, pNum_itoa (h n (List.mem_cons_self ..)) (tailW_head _)]
    simp only []
    rw [pMany_tail l fun x hx => h x (List.mem_cons_of_mem _ hx)]
    rfl
def treeW (l : List (B × Int)) : List B := l.flatMap fun e => [quote e.1, itoa e.2]
theorem pTree_tail : ∀ (l : List (B × Int)), (∀ e ∈ l, 0 ≤ e.2 ∧ e.2 < 4294967296) → pTree (tailW (treeW l)) = some l
  | [], _ => pTree_nil
  | e :: l, h => by
    have he := h e (List.mem_cons_self ..)
    have e1 : tailW (treeW (e :: l)) = 32 :: (quote e.1 ++ 32 :: (itoa e.2 ++ tailW (treeW l))) := by
      simp [treeW, tailW]
    rw [e1, pTree_some (pText_quote e.1 _) (show pSmall _ = some (e.2, tailW (treeW l)) by
      unfold pSmall; rw [pNum_itoa (by unfold I64; omega) (tailW_head _)]; simp only []; rw [if_pos he]), pTree_tail l fun x hx => h x (List.mem_cons_of_mem _ hx)]
    rfl

/-! ### A command's line -/
/-- has a command what its kind needs? -/
def fitS (c : Cmd) : Prop :=
  if c.kind = 1 then c.nums.length = 6 ∧ 0 ≤ c.nums.getD 4 0 ∧ c.nums.getD 4 0 < 4294967296
  else if c.kind = 3 ∨ c.kind = 8 then 0 < c.nums.length
  else if c.kind = 7 ∨ c.kind = 9 ∨ c.kind = 11 then c.nums.length = 1
  else if c.kind = 12 then 1 ≤ c.ask.kind ∧ c.ask.kind ≤ 12
  else 1 ≤ c.kind ∧ c.kind ≤ 14
instance (c : Cmd) : Decidable (fitS c) := by unfold fitS; infer_instance
/-- the name of a kind; none: "" -/
def nameIn (l : List (Int × B)) (k : Int) : B := match l.find? (fun p => p.1 == k) with | some p => p.2 | none => []
/-- a question's words behind its name -/
def askW (q : Ques) : List B :=
  if q.kind = 1 ∨ q.kind = 3 ∨ q.kind = 4 then [itoa q.a, itoa q.b]
  else if q.kind = 2 ∨ q.kind = 5 ∨ q.kind = 6 then q.ids.map itoa
  else if q.kind = 7 ∨ q.kind = 8 then [itoa q.a, quote q.path]
  else if q.kind = 9 ∨ q.kind = 10 then [itoa q.a, itoa q.b, itoa q.limit]
  else [itoa q.a]
/-- a command's words behind its name -/
def cmdW (c : Cmd) : List B :=
  if c.kind = 1 ∨ c.kind = 3 ∨ c.kind = 7 ∨ c.kind = 8 then c.nums.map itoa
  else if c.kind = 2 then treeW c.tree
  else if c.kind = 9 then [quote c.text, itoa (c.nums.getD 0 0), quote c.more]
  else if c.kind = 10 then [quote c.text]
  else if c.kind = 11 then [quote c.text, itoa (c.nums.getD 0 0)]
  else if c.kind = 12 then askW c.ask
  else []
def nameC (c : Cmd) : B := if c.kind = 12 then nameIn qnames c.ask.kind else nameIn cnames c.kind
/-- a command's line -/
def lineS (c : Cmd) : B := nameC c ++ tailW (cmdW c)

/-- what the kinds name, the rest zero -/
def normQ (q : Ques) : Ques :=
  if q.kind = 1 ∨ q.kind = 3 ∨ q.kind = 4 then { kind := q.kind, a := q.a, b := q.b }
  else if q.kind = 2 ∨ q.kind = 5 ∨ q.kind = 6 then { kind := q.kind, ids := q.ids }
  else if q.kind = 7 ∨ q.kind = 8 then { kind := q.kind, a := q.a, path := q.path }
  else if q.kind = 9 ∨ q.kind = 10 then { kind := q.kind, a := q.a, b := q.b, limit := q.limit }
  else { kind := q.kind, a := q.a }
def normC (c : Cmd) : Cmd :=
  if c.kind = 1 ∨ c.kind = 3 ∨ c.kind = 7 ∨ c.kind = 8 then { kind := c.kind, nums := c.nums }
  else if c.kind = 2 then { kind := 2, tree := c.tree }
  else if c.kind = 9 then { kind := 9, nums := c.nums, text := c.text, more := c.more }
  else if c.kind = 10 then { kind := 10, text := c.text }
  else if c.kind = 11 then { kind := 11, nums := c.nums, text := c.text }
  else if c.kind = 12 then { kind := 12, ask := normQ c.ask }
  else { kind := c.kind }

/-- the numbers of a command are numbers of the machine -/
structure CmdOk (c : Cmd) : Prop where
  nums : ∀ n ∈ c.nums, I64 n
  tree : ∀ e ∈ c.tree, 0 ≤ e.2 ∧ e.2 < 4294967296
  ids : ∀ n ∈ c.ask.ids, I64 n
  a : I64 c.ask.a
  b : I64 c.ask.b
  limit : I64 c.ask.limit

theorem pBody_ask (q : Ques) (h1 : 1 ≤ q.kind) (h2 : q.kind ≤ 12) (hi : ∀ n ∈ q.ids, I64 n) (ha : I64 q.a) (hb : I64 q.b) (hl : I64 q.limit) : pQues q.kind (tailW (askW q)) = some (normQ q, []) := by
  have N : ∀ (n : Int) (l : List B), I64 n → pNum (tailW (itoa n :: l)) = some (n, tailW l) := fun n l hn => by rw [tailW_cons]; exact pNum_itoa hn (tailW_head _)
  have T : ∀ (x : B) (l : List B), pText (tailW (quote x :: l)) = some (x, tailW l) := fun x l => by rw [tailW_cons]; exact pText_quote x _
  unfold pQues askW normQ
  by_cases k1 : q.kind = 1 ∨ q.kind = 3 ∨ q.kind = 4
  · simp only [if_pos k1, N _ _ ha, N _ _ hb, tailW_nil]
  · by_cases k2 : q.kind = 2 ∨ q.kind = 5 ∨ q.kind = 6
    · simp only [if_neg k1, if_pos k2, pNums_tail _ hi, Option.map_some]
    · by_cases k3 : q.kind = 7 ∨ q.kind = 8
      · simp only [if_neg k1, if_neg k2, if_pos k3, N _ _ ha, T, tailW_nil]
      · by_cases k4 : q.kind = 9 ∨ q.kind = 10
        · simp only [if_neg k1, if_neg k2, if_neg k3, if_pos k4, N _ _ ha, N _ _ hb, N _ _ hl, tailW_nil]
        · have k5 : q.kind = 11 ∨ q.kind = 12 := by omega
          simp only [if_neg k1, if_neg k2, if_neg k3, if_neg k4, if_pos k5, N _ _ ha, Option.map_some, tailW_nil]

theorem names_fin : (∀ p ∈ cnames, kindIn cnames p.2 = p.1 ∧ (∀ c ∈ p.2, c ≠ 32 ∧ c ≠ 10) ∧ p.2 ≠ [] ∧ p.2.head? ≠ some 35 ∧ nameIn cnames p.1 = p.2) ∧
    (∀ p ∈ qnames, kindIn cnames p.2 = 0 ∧ kindIn qnames p.2 = p.1 ∧ (∀ c ∈ p.2, c ≠ 32 ∧ c ≠ 10) ∧ p.2 ≠ [] ∧ p.2.head? ≠ some 35 ∧ nameIn qnames p.1 = p.2) := by decide +kernel
theorem cname_of (k : Int) (h1 : 1 ≤ k) (h2 : k ≤ 14) (h3 : k ≠ 12) : ∃ p ∈ cnames, p.1 = k := by
  have : k = 1 ∨ k = 2 ∨ k = 3 ∨ k = 4 ∨ k = 5 ∨ k = 6 ∨ k = 7 ∨ k = 8 ∨ k = 9 ∨ k = 10 ∨ k = 11 ∨ k = 13 ∨ k = 14 := by omega
  rcases this with rfl | rfl | rfl | rfl | rfl | rfl | rfl | rfl | rfl | rfl | rfl | rfl | rfl <;> simp [cnames]
theorem qname_of (k : Int) (h1 : 1 ≤ k) (h2 : k ≤ 12) : ∃ p ∈ qnames, p.1 = k := by
  have : k = 1 ∨ k = 2 ∨ k = 3 ∨ k = 4 ∨ k = 5 ∨ k = 6 ∨ k = 7 ∨ k = 8 ∨ k = 9 ∨ k = 10 ∨ k = 11 ∨ k = 12 := by omega
  rcases this with rfl | rfl | rfl | rfl | rfl | rfl | rfl | rfl | rfl | rfl | rfl | rfl <;> simp [qnames]

theorem fit_kind {c : Cmd} (h : fitS c) : 1 ≤ c.kind ∧ c.kind ≤ 14 ∧ (c.kind = 12 → 1 ≤ c.ask.kind ∧ c.ask.kind ≤ 12) := by
  unfold fitS at h
  split at h
  · omega
  · split at h
    · omega
    · split at h
      · omega
      · split at h
        · exact ⟨by omega, by omega, fun _ => h⟩
        · exact ⟨by omega, by omega, by omega⟩

theorem name_facts {c : Cmd} (h : fitS c) : (∀ x ∈ nameC c, x ≠ 32 ∧ x ≠ 10) ∧ nameC c ≠ [] ∧ (nameC c).head? ≠ some 35 ∧ kindIn cnames (nameC c) = (if c.kind = 12 then 0 else c.kind) ∧ (c.kind = 12 → kindIn qnames (nameC c) = c.ask.kind) := by
  obtain ⟨h1, h2, h3⟩ := fit_kind h
  unfold nameC
  by_cases hk : c.kind = 12
  · obtain ⟨q1, q2⟩ := h3 hk
    obtain ⟨p, hp, hpk⟩ := qname_of _ q1 q2
    obtain ⟨a1, a2, a3, a4, a5, a6⟩ := names_fin.2 p hp
    rw [if_pos hk, if_pos hk, ← hpk, a6]
    exact ⟨a3, a4, a5, a1, fun _ => a2⟩
  · obtain ⟨p, hp, hpk⟩ := cname_of _ h1 h2 hk
    obtain ⟨a2, a3, a4, a5, a6⟩ := names_fin.1 p hp
    rw [if_neg hk, if_neg hk, ← hpk, a6]
    exact ⟨a3, a4, a5, a2, fun q => absurd q (by rw [hpk]; exact hk)⟩

theorem pBody_line (c : Cmd) (h : fitS c) (ok : CmdOk c) : pBody (if c.kind = 12 then 0 else c.kind) (nameC c) (tailW (cmdW c)) = some (normC c, []) := by
  have N : ∀ (n : Int) (l : List B), I64 n → pNum (tailW (itoa n :: l)) = some (n, tailW l) := fun n l hn => by rw [tailW_cons]; exact pNum_itoa hn (tailW_head _)
  have T : ∀ (x : B) (l : List B), pText (tailW (quote x :: l)) = some (x, tailW l) := fun x l => by rw [tailW_cons]; exact pText_quote x _
  obtain ⟨h1, h2, h3⟩ := fit_kind h
  obtain ⟨-, -, -, -, hq⟩ := name_facts h
  obtain ⟨kind, nums, text, more, tree, ask⟩ := c
  have hn := ok.nums
  have ht := ok.tree
  simp only [] at h1 h2 h3 hq hn ht ⊢
  unfold fitS at h
  simp only [] at h
  have hk : kind = 1 ∨ kind = 2 ∨ kind = 3 ∨ kind = 4 ∨ kind = 5 ∨ kind = 6 ∨ kind = 7 ∨ kind = 8 ∨ kind = 9 ∨ kind = 10 ∨ kind = 11 ∨ kind = 12 ∨ kind = 13 ∨ kind = 14 := by omega
  rcases hk with rfl | rfl | rfl | rfl | rfl | rfl | rfl | rfl | rfl | rfl | rfl | rfl | rfl | rfl
  · simp at h
    have := pMany_tail nums hn
    rw [h.1] at this
    simp [pBody, cmdW, normC, this, h.2]
  · simp [pBody, cmdW, normC, pTree_tail _ ht]
  · simp at h
    cases nums with
    | nil => simp at h
    | cons n l => simp [pBody, cmdW, normC, N n _ (hn n (List.mem_cons_self ..)), pNums_tail l fun x hx => hn x (List.mem_cons_of_mem _ hx)]
  · simp [pBody, cmdW, normC, tailW_nil]
  · simp [pBody, cmdW, normC, tailW_nil]
  · simp [pBody, cmdW, normC, tailW_nil]
  · simp at h
    match nums, h with
    | [n], _ => simp [pBody, cmdW, normC, N n _ (hn n (List.mem_cons_self ..)), tailW_nil]
  · simp at h
    cases nums with
    | nil => simp at h
    | cons n l => simp [pBody, cmdW, normC, N n _ (hn n (List.mem_cons_self ..)), pNums_tail l fun x hx => hn x (List.mem_cons_of_mem _ hx)]
  · simp at h
    match nums, h with
    | [n], _ => simp [pBody, cmdW, normC, N n _ (hn n (List.mem_cons_self ..)), T, tailW_nil]
  · simp [pBody, cmdW, normC, T, tailW_nil]
  · simp at h
    match nums, h with
    | [n], _ => simp [pBody, cmdW, normC, N n _ (hn n (List.mem_cons_self ..)), T, tailW_nil]
  · have hb := pBody_ask ask (h3 rfl).1 (h3 rfl).2 ok.ids ok.a ok.b ok.limit
    simp [pBody, cmdW, normC, hq, hb]
  · simp [pBody, cmdW, normC, tailW_nil]
  · simp [pBody, cmdW, normC, tailW_nil]

theorem pLine_line (c : Cmd) (h : fitS c) (ok : CmdOk c) : pLine (lineS c) = some (normC c) := by
  obtain ⟨a1, -, -, a4, -⟩ := name_facts h
  obtain ⟨e1, e2⟩ := tok_of (nameC c) (tailW (cmdW c)) (fun x hx => (a1 x hx).1) (tailW_head _)
  unfold pLine lineS
  rw [e1, e2, a4, pBody_line c h ok]
  rfl

/-! ### A script's text -/
def textS (l : List Cmd) : B := l.flatMap fun c => lineS c ++ [10]
/-- Print's answer: the text, and the error -/
def printS (eL eS : Nat) (l : List Cmd) : B × Nat :=
  if ∃ c ∈ l, ¬ fitS c then ([], eS) else if 1024 < l.length ∨ 65536 < (textS l).length then ([], eL) else (textS l, 0)

theorem itoa_no10 (n : Int) : ∀ c ∈ itoa n, c ≠ 10 := by
  intro c hc
  unfold itoa at hc
  split at hc
  · simp only [List.mem_cons] at hc
    rcases hc with rfl | hc
    · decide
    · rintro rfl; have := decDigits_dig _ _ hc; revert this; decide
  · rintro rfl; have := decDigits_dig _ _ hc; revert this; decide
theorem quote_no10 (s : B) : ∀ c ∈ quote s, c ≠ 10 := by
  intro c hc
  rintro rfl
  have := quote_fit s _ hc
  revert this; decide
theorem cmdW_no10 (c : Cmd) : ∀ x ∈ cmdW c, ∀ b ∈ x, b ≠ 10 := by
  intro x hx
  have : (∃ n, x = itoa n) ∨ ∃ t, x = quote t := by
    unfold cmdW askW treeW at hx
    repeat' split at hx
    all_goals (simp at hx)
    all_goals (try (obtain ⟨a, -, rfl⟩ := hx; exact .inl ⟨a, rfl⟩))
    all_goals (try (obtain ⟨a, b, -, rfl | rfl⟩ := hx; exact .inr ⟨_, rfl⟩; exact .inl ⟨_, rfl⟩))
    all_goals (try (rcases hx with rfl | rfl | rfl <;> first | exact .inl ⟨_, rfl⟩ | exact .inr ⟨_, rfl⟩))
    all_goals (try (rcases hx with rfl | rfl <;> first | exact .inl ⟨_, rfl⟩ | exact .inr ⟨_, rfl⟩))
    all_goals (try (subst hx; first | exact .inl ⟨_, rfl⟩ | exact .inr ⟨_, rfl⟩))
  rcases this with ⟨n, rfl⟩ | ⟨t, rfl⟩
  · exact itoa_no10 n
  · exact quote_no10 t
theorem line_no10 (c : Cmd) (h : fitS c) : (10 : UInt8) ∉ lineS c := by
  intro q
  unfold lineS tailW at q
  simp only [List.mem_append, List.mem_flatMap, List.mem_cons] at q
  rcases q with q | ⟨x, hx, q⟩
  · exact ((name_facts h).1 _ q).2 rfl
  · rcases q with q | q
    · revert q; decide
    · exact cmdW_no10 c x hx _ q rfl
theorem line_says (c : Cmd) (h : fitS c) : says (lineS c) := by
  obtain ⟨-, a2, a3, -⟩ := name_facts h
  unfold says lineS
  cases hn : nameC c with
  | nil => exact absurd hn a2
  | cons x r => rw [hn] at a3; exact ⟨by simp, by simpa using a3⟩

theorem pLines_text : ∀ (l : List Cmd), (∀ c ∈ l, fitS c ∧ CmdOk c) → pLines (parts (textS l)) = some (l.map normC) ∧ (textS l).count 10 = l.length ∧ (l ≠ [] → (textS l).getLast? = some 10)
  | [], _ => by refine ⟨?_, rfl, fun h => absurd rfl h⟩; rw [show textS [] = [] from rfl, parts_nil]; rfl
  | c :: l, h => by
    obtain ⟨hf, ho⟩ := h c (List.mem_cons_self ..)
    obtain ⟨i1, i2, i3⟩ := pLines_text l fun x hx => h x (List.mem_cons_of_mem _ hx)
    have e : textS (c :: l) = lineS c ++ 10 :: textS l := by simp [textS]
    have hn := line_no10 c hf
    refine ⟨?_, ?_, fun _ => ?_⟩
    · rw [e, parts_app _ _ hn, pLines, if_pos (line_says c hf), pLine_line c hf ho]
      simp [i1]
    · rw [e, List.count_append, List.count_eq_zero.2 hn, List.count_cons_self, i2]; simp
    · rw [e, List.getLast?_append]
      cases l with
      | nil => simp [textS]
      | cons d l => rw [List.getLast?_cons, i3 (by simp)]; rfl

theorem nLines_text (l : List Cmd) (h : ∀ c ∈ l, fitS c ∧ CmdOk c) : nLines (textS l) = l.length := by
  obtain ⟨-, h2, h3⟩ := pLines_text l h
  unfold nLines
  rw [if_pos, h2]
  cases l with
  | nil => exact .inl rfl
  | cons c l => exact .inr (h3 (by simp))

/-- what is told is read as it was, what the kinds don't name zero -/
theorem parse_print {l : List Cmd} (h : ∀ c ∈ l, CmdOk c) {eL eS eL' eS' : Nat} {t : B} (hp : printS eL eS l = (t, 0)) (h1 : eL ≠ 0) (h2 : eS ≠ 0) : parseS eL' eS' t = (l.map normC, 0) := by
  unfold printS at hp
  split at hp
  · exact absurd (Prod.mk.inj hp).2 h2
  · rename_i hf
    split at hp
    · exact absurd (Prod.mk.inj hp).2 h1
    · rename_i hlen
      have ht := (Prod.mk.inj hp).1
      subst ht
      have hall : ∀ c ∈ l, fitS c ∧ CmdOk c := fun c hc => ⟨Classical.byContradiction fun q => hf ⟨c, hc, q⟩, h c hc⟩
      obtain ⟨p1, -, -⟩ := pLines_text l hall
      unfold parseS
      rw [if_neg (by unfold tooLong; rw [nLines_text l hall]; exact fun q => hlen q.symm), p1]

theorem normQ_idem (q : Ques) : normQ (normQ q) = normQ q ∧ (normQ q).kind = q.kind ∧ askW (normQ q) = askW q := by
  by_cases k1 : q.kind = 1 ∨ q.kind = 3 ∨ q.kind = 4
  · simp [normQ, askW, k1]
  · by_cases k2 : q.kind = 2 ∨ q.kind = 5 ∨ q.kind = 6
    · simp [normQ, askW, k1, k2]
    · by_cases k3 : q.kind = 7 ∨ q.kind = 8
      · simp [normQ, askW, k1, k2, k3]
      · by_cases k4 : q.kind = 9 ∨ q.kind = 10
        · simp [normQ, askW, k1, k2, k3, k4]
        · simp [normQ, askW, k1, k2, k3, k4]
theorem norm_facts (c : Cmd) : (normC c).kind = c.kind ∧ normC (normC c) = normC c ∧ lineS (normC c) = lineS c ∧ (fitS (normC c) ↔ fitS c) := by
  obtain ⟨q1, q2, q3⟩ := normQ_idem c.ask
  by_cases k1 : c.kind = 1 ∨ c.kind = 3 ∨ c.kind = 7 ∨ c.kind = 8
  · have : c.kind ≠ 12 := by omega
    simp [normC, k1, lineS, cmdW, nameC, fitS, this]
  · by_cases k2 : c.kind = 2
    · simp [normC, k2, lineS, cmdW, nameC, fitS]
    · by_cases k9 : c.kind = 9
      · simp [normC, k9, lineS, cmdW, nameC, fitS]
      · by_cases k10 : c.kind = 10
        · simp [normC, k10, lineS, cmdW, nameC, fitS]
        · by_cases k11 : c.kind = 11
          · simp [normC, k11, lineS, cmdW, nameC, fitS]
          · by_cases k12 : c.kind = 12
            · simp [normC, k12, lineS, cmdW, nameC, fitS, q1, q2, q3]
            · have k1' : ¬ (c.kind = 1 ∨ c.kind = 3 ∨ c.kind = 7 ∨ c.kind = 8) := k1
              simp only [not_or] at k1
              simp [normC, k1, k2, k9, k10, k11, k12, lineS, cmdW, nameC, fitS]
end Go.Mine.Sc

set_option linter.unusedVariables false
set_option linter.unusedSimpArgs false
namespace Go.Mine.Sc
open Go.Lib

theorem pNum_int {s : B} {n : Int} {r : B} (h : pNum s = some (n, r)) : I64 n := by
  cases s with
  | nil => simp [pNum] at h
  | cons c t =>
    by_cases hc : c = 32
    · subst hc; exact (pNum_rNum h).2
    · simp [pNum, hc] at h
theorem pNums_int : ∀ (k : Nat) (s : B) (l : List Int), s.length ≤ k → pNums s = some l → ∀ n ∈ l, I64 n
  | k, [], l, _, h => by rw [pNums_nil] at h; rw [← Option.some.inj h]; simp
  | 0, c :: t, l, hk, h => by simp at hk
  | k + 1, c :: t, l, hk, h => by
    cases hp : pNum (c :: t) with
    | none => rw [pNums_none (by simp) hp] at h; simp at h
    | some p =>
      obtain ⟨n, r⟩ := p
      rw [pNums_some hp] at h
      obtain ⟨l', h1, rfl⟩ := Option.map_eq_some_iff.1 h
      have hlt := pNum_lt hp
      intro x hx
      rcases List.mem_cons.1 hx with rfl | hx
      · exact pNum_int hp
      · exact pNums_int k r l' (by omega) h1 x hx
theorem pMany_int : ∀ (k : Nat) (s : B) (l : List Int) (r : B), pMany k s = some (l, r) → l.length = k ∧ ∀ n ∈ l, I64 n
  | 0, s, l, r, h => by
    have h' := Option.some.inj h
    obtain ⟨rfl, rfl⟩ := Prod.mk.inj h'
    exact ⟨rfl, by simp⟩
  | k + 1, s, l, r, h => by
    rw [pMany] at h
    cases hp : pNum s with
    | none => rw [hp] at h; simp at h
    | some p =>
      obtain ⟨n, r1⟩ := p
      rw [hp] at h
      simp only [] at h
      obtain ⟨q, h1, h2⟩ := Option.map_eq_some_iff.1 h
      obtain ⟨l1, r2⟩ := q
      obtain ⟨i1, i2⟩ := pMany_int k r1 l1 r2 h1
      obtain ⟨rfl, rfl⟩ := Prod.mk.inj h2
      refine ⟨by simp [i1], fun x hx => ?_⟩
      rcases List.mem_cons.1 hx with rfl | hx
      · exact pNum_int hp
      · exact i2 x hx
theorem pTree_int : ∀ (k : Nat) (s : B) (l : List (B × Int)), s.length ≤ k → pTree s = some l → ∀ e ∈ l, 0 ≤ e.2 ∧ e.2 < 4294967296
  | k, [], l, _, h => by rw [pTree_nil] at h; rw [← Option.some.inj h]; simp
  | 0, c :: t, l, hk, h => by simp at hk
  | k + 1, c :: t, l, hk, h => by
    cases hp : pText (c :: t) with
    | none => rw [pTree_text (by simp) hp] at h; simp at h
    | some p =>
      obtain ⟨x, r⟩ := p
      cases h2 : pSmall r with
      | none => rw [pTree_small hp h2] at h; simp at h
      | some p2 =>
        obtain ⟨n, r2⟩ := p2
        rw [pTree_some hp h2] at h
        obtain ⟨l', h1, rfl⟩ := Option.map_eq_some_iff.1 h
        have hlt := pText_lt hp
        obtain ⟨h3, h4, h5⟩ := pSmall_num h2
        have hlt2 := pNum_lt h3
        intro e he
        rcases List.mem_cons.1 he with rfl | he
        · exact ⟨h4, h5⟩
        · exact pTree_int k r2 l' (by omega) h1 e he

theorem i64_0 : I64 0 := by unfold I64; omega
/-- a command as it is read -/
def Read (c : Cmd) : Prop := fitS c ∧ CmdOk c ∧ normC c = c

theorem pQues_read {k : Int} {s : B} {q : Ques} {r : B} (h : pQues k s = some (q, r)) : 1 ≤ q.kind ∧ q.kind ≤ 12 ∧ normQ q = q ∧ (∀ n ∈ q.ids, I64 n) ∧ I64 q.a ∧ I64 q.b ∧ I64 q.limit := by
  unfold pQues at h
  split at h
  · rename_i k1
    split at h
    · simp at h
    · rename_i a r1 ha
      split at h
      · simp at h
      · rename_i b r2 hb
        obtain ⟨rfl, rfl⟩ := Prod.mk.inj (Option.some.inj h)
        exact ⟨by simp only []; omega, by simp only []; omega, by simp [normQ, k1], by simp, pNum_int ha, pNum_int hb, i64_0⟩
  · rename_i k1
    split at h
    · rename_i k2
      obtain ⟨l, hl, e⟩ := Option.map_eq_some_iff.1 h
      obtain ⟨rfl, rfl⟩ := Prod.mk.inj e
      exact ⟨by simp only []; omega, by simp only []; omega, by simp [normQ, k1, k2], pNums_int _ _ _ (Nat.le_refl _) hl, i64_0, i64_0, i64_0⟩
    · rename_i k2
      split at h
      · rename_i k3
        split at h
        · simp at h
        · rename_i a r1 ha
          split at h
          · simp at h
          · rename_i b r2 hb
            obtain ⟨rfl, rfl⟩ := Prod.mk.inj (Option.some.inj h)
            exact ⟨by simp only []; omega, by simp only []; omega, by simp [normQ, k1, k2, k3], by simp, pNum_int ha, i64_0, i64_0⟩
      · rename_i k3
        split at h
        · rename_i k4
          split at h
          · simp at h
          · rename_i a r1 ha
            split at h
            · simp at h
            · rename_i b r2 hb
              split at h
              · simp at h
              · rename_i c r3 hc
                obtain ⟨rfl, rfl⟩ := Prod.mk.inj (Option.some.inj h)
                exact ⟨by simp only []; omega, by simp only []; omega, by simp [normQ, k1, k2, k3, k4], by simp, pNum_int ha, pNum_int hb, pNum_int hc⟩
        · rename_i k4
          split at h
          · rename_i k5
            obtain ⟨l, hl, e⟩ := Option.map_eq_some_iff.1 h
            obtain ⟨rfl, rfl⟩ := Prod.mk.inj e
            obtain ⟨a, r1⟩ := l
            exact ⟨by simp only []; omega, by simp only []; omega, by simp [normQ, k1, k2, k3, k4], by simp, pNum_int hl, i64_0, i64_0⟩
          · simp at h

theorem pBody_read {k : Int} {name s : B} {c : Cmd} {r : B} (hk : 0 ≤ k ∧ k ≤ 14 ∧ k ≠ 12) (h : pBody k name s = some (c, r)) : Read c := by
  unfold pBody at h
  have Z : CmdOk {} := ⟨by simp, by simp, by simp, i64_0, i64_0, i64_0⟩
  split at h
  · rename_i k1
    split at h
    · simp at h
    · rename_i l r1 hl
      split at h
      · rename_i hb
        obtain ⟨rfl, rfl⟩ := Prod.mk.inj (Option.some.inj h)
        obtain ⟨i1, i2⟩ := pMany_int _ _ _ _ hl
        exact ⟨by unfold fitS; rw [if_pos rfl]; exact ⟨i1, hb⟩, ⟨i2, by simp, by simp, i64_0, i64_0, i64_0⟩, by simp [normC]⟩
      · simp at h
  · rename_i k1
    split at h
    · rename_i k2
      obtain ⟨l, hl, e⟩ := Option.map_eq_some_iff.1 h
      obtain ⟨rfl, rfl⟩ := Prod.mk.inj e
      exact ⟨by simp [fitS], ⟨by simp, pTree_int _ _ _ (Nat.le_refl _) hl, by simp, i64_0, i64_0, i64_0⟩, by simp [normC]⟩
    · rename_i k2
      split at h
      · rename_i k3
        split at h
        · simp at h
        · rename_i a r1 ha
          obtain ⟨l, hl, e⟩ := Option.map_eq_some_iff.1 h
          obtain ⟨rfl, rfl⟩ := Prod.mk.inj e
          refine ⟨by rcases k3 with rfl | rfl <;> simp [fitS], ⟨fun n hn => ?_, by simp, by simp, i64_0, i64_0, i64_0⟩, by rcases k3 with rfl | rfl <;> simp [normC]⟩
          rcases List.mem_cons.1 hn with rfl | hn
          · exact pNum_int ha
          · exact pNums_int _ _ _ (Nat.le_refl _) hl n hn
      · rename_i k3
        split at h
        · rename_i k7
          obtain ⟨p, hp, e⟩ := Option.map_eq_some_iff.1 h
          obtain ⟨rfl, rfl⟩ := Prod.mk.inj e
          obtain ⟨a, r1⟩ := p
          exact ⟨by simp [fitS], ⟨by simpa using pNum_int hp, by simp, by simp, i64_0, i64_0, i64_0⟩, by simp [normC]⟩
        · rename_i k7
          split at h
          · rename_i k9
            split at h
            · simp at h
            · rename_i x r1 hx
              split at h
              · simp at h
              · rename_i n r2 hn
                obtain ⟨p, hp, e⟩ := Option.map_eq_some_iff.1 h
                obtain ⟨rfl, rfl⟩ := Prod.mk.inj e
                exact ⟨by simp [fitS], ⟨by simpa using pNum_int hn, by simp, by simp, i64_0, i64_0, i64_0⟩, by simp [normC]⟩
          · rename_i k9
            split at h
            · rename_i k10
              obtain ⟨p, hp, e⟩ := Option.map_eq_some_iff.1 h
              obtain ⟨rfl, rfl⟩ := Prod.mk.inj e
              exact ⟨by simp [fitS], ⟨by simp, by simp, by simp, i64_0, i64_0, i64_0⟩, by simp [normC]⟩
            · rename_i k10
              split at h
              · rename_i k11
                split at h
                · simp at h
                · rename_i x r1 hx
                  obtain ⟨p, hp, e⟩ := Option.map_eq_some_iff.1 h
                  obtain ⟨rfl, rfl⟩ := Prod.mk.inj e
                  obtain ⟨n, r2⟩ := p
                  exact ⟨by simp [fitS], ⟨by simpa using pNum_int hp, by simp, by simp, i64_0, i64_0, i64_0⟩, by simp [normC]⟩
              · rename_i k11
                split at h
                · obtain ⟨p, hp, e⟩ := Option.map_eq_some_iff.1 h
                  obtain ⟨rfl, rfl⟩ := Prod.mk.inj e
                  obtain ⟨q, r1⟩ := p
                  obtain ⟨a1, a2, a3, a4, a5, a6, a7⟩ := pQues_read hp
                  exact ⟨by simp [fitS]; omega, ⟨by simp, by simp, a4, a5, a6, a7⟩, by simp [normC, a3]⟩
                · rename_i k0
                  obtain ⟨rfl, rfl⟩ := Prod.mk.inj (Option.some.inj h)
                  have hk' : k = 4 ∨ k = 5 ∨ k = 6 ∨ k = 13 ∨ k = 14 := by omega
                  exact ⟨by rcases hk' with rfl | rfl | rfl | rfl | rfl <;> simp [fitS], ⟨by simp, by simp, by simp, i64_0, i64_0, i64_0⟩, by rcases hk' with rfl | rfl | rfl | rfl | rfl <;> simp [normC]⟩

theorem kinds_c : ∀ k ∈ cnames.map (·.1), 0 ≤ k ∧ k ≤ 14 ∧ k ≠ 12 := by decide
theorem pLine_read {s : B} {c : Cmd} (h : pLine s = some c) : Read c := by
  unfold pLine ends at h
  split at h
  · simp at h
  · rename_i p hp
    split at h
    · obtain ⟨c', r⟩ := p
      have e := Option.some.inj h
      simp only [] at e
      subst e
      refine pBody_read ?_ hp
      rcases kindIn_mem cnames (tok s) with h0 | h0
      · rw [h0]; omega
      · exact kinds_c _ h0
    · simp at h
theorem pLines_read : ∀ (ls : List B) (l : List Cmd), pLines ls = some l → ∀ c ∈ l, Read c
  | [], l, h => by rw [pLines] at h; rw [← Option.some.inj h]; simp
  | x :: ls, l, h => by
    rw [pLines] at h
    split at h
    · split at h
      · simp at h
      · rename_i c hc
        obtain ⟨l', h1, rfl⟩ := Option.map_eq_some_iff.1 h
        intro d hd
        rcases List.mem_cons.1 hd with rfl | hd
        · exact pLine_read hc
        · exact pLines_read ls l' h1 d hd
    · exact pLines_read ls l h
theorem parseS_read (eL eS : Nat) (t : B) : ∀ c ∈ (parseS eL eS t).1, Read c := by
  unfold parseS
  split
  · simp
  · split
    · simp
    · rename_i l hl
      exact pLines_read _ _ hl

theorem norm_read {l : List Cmd} (h : ∀ c ∈ l, Read c) : l.map normC = l := by
  induction l with
  | nil => rfl
  | cons c l ih => rw [List.map_cons, (h c (List.mem_cons_self ..)).2.2, ih fun d hd => h d (List.mem_cons_of_mem _ hd)]

/-- what is read is told, or is too long; and that is read as the same -/
theorem print_read {l : List Cmd} (h : ∀ c ∈ l, Read c) (eL eS eL' eS' : Nat) (h1 : eL ≠ 0) (h2 : eS ≠ 0) : printS eL eS l = ([], eL) ∨ ∃ t, printS eL eS l = (t, 0) ∧ parseS eL' eS' t = (l, 0) := by
  have hf : ¬ ∃ c ∈ l, ¬ fitS c := fun ⟨c, hc, hn⟩ => hn (h c hc).1
  by_cases hl : 1024 < l.length ∨ 65536 < (textS l).length
  · left; unfold printS; rw [if_neg hf, if_pos hl]
  · right
    have hp : printS eL eS l = (textS l, 0) := by unfold printS; rw [if_neg hf, if_neg hl]
    refine ⟨_, hp, ?_⟩
    rw [parse_print (fun c hc => (h c hc).2.1) hp h1 h2, norm_read h]
/-- what was told and read is told again -/
theorem print_again {l : List Cmd} (h : ∀ c ∈ l, CmdOk c) {eL eS : Nat} {t : B} (hp : printS eL eS l = (t, 0)) (h1 : eL ≠ 0) (h2 : eS ≠ 0) : printS eL eS (l.map normC) = (t, 0) := by
  have e : textS (l.map normC) = textS l := by
    clear hp h
    induction l with
    | nil => rfl
    | cons c l ih =>
      have e1 : textS ((c :: l).map normC) = lineS (normC c) ++ [10] ++ textS (l.map normC) := by simp [textS]
      have e2 : textS (c :: l) = lineS c ++ [10] ++ textS l := by simp [textS]
      rw [e1, e2, (norm_facts c).2.2.1, ih]
  unfold printS at hp ⊢
  rw [e, List.length_map]
  split at hp
  · exact absurd (Prod.mk.inj hp).2 h2
  · rename_i hf
    rw [if_neg]
    · exact hp
    · rintro ⟨c, hc, hn⟩
      obtain ⟨d, hd, rfl⟩ := List.mem_map.1 hc
      exact hf ⟨d, hd, fun q => hn ((norm_facts d).2.2.2.2 q)⟩
end Go.Mine.Sc

set_option linter.unusedVariables false
set_option linter.unusedSimpArgs false
namespace Go.Proofs.YteblabpplaaddaaGreatDoor
open Go.RowKit Go.Mine Go.Mine.Sc

/-- bytes that a call has laid, of blocks of T or newer than w1 -/
def Byt (T : Nat → Prop) (w1 : World) (v : Value) (l : B) (wr : World) : Prop := (∃ S, Sl wr S 5 1 v (bcells l) l.length ∧ ∀ b, S b → T b ∨ w1.heap.size ≤ b) ∧ Turned T w1 wr
theorem Byt.app {T : Nat → Prop} {w1 wr w9 : World} {S : Nat → Prop} {l x : B} {v' : Value} {o : Obj} (hS : ∀ b, S b → T b ∨ w1.heap.size ≤ b) (ht : Turned T w1 wr)
    (q1 : Sl w9 (More S (wr.alloc o)) 5 1 v' (bcells l ++ bcells x) (l.length + x.length)) (t1 : Turned S (wr.alloc o) w9) : Byt T w1 v' (l ++ x) w9 := by
  have s1 := ht.size
  have s2 : (wr.alloc o).heap.size = wr.heap.size + 1 := by simp
  refine ⟨⟨_, by rw [bcells_app, List.length_append]; exact q1, ?_⟩, ht.comp ((Turned.alloc S wr o).trans t1 fun _ _ q => q) fun b hb q => ?_⟩
  · rintro b (q | q)
    · exact hS b q
    · exact .inr (by omega)
  · rcases q with q | q
    · exact q
    · exact (hS b q).resolve_right (by omega)
theorem src_row {te tx : TypeId} (hk : Tryz.prog.underlying tx = some (.slice te)) (us : List Value) (h1 : ∀ u ∈ us, u.oneCell' = true) (w : World) : Src Tryz.prog 1 tx (.slice (some ⟨w.heap.size, 0, none⟩) us.length us.length) us.length us (w.alloc (.cells us.toArray te)) :=
  Src.ofSlice _ hk _ us.length us.length us (by simp) (fun j u hu => by
    rw [Addr.add_lit, World.cell?_alloc_at _ _ _ _ rfl]
    simpa using hu) h1

theorem bytes_turned (w : World) (e : TypeId) (s : ByteArray) : Turned (fun _ => False) w (Lib.bytesWorld w e s) := by
  refine ⟨rfl, rfl, rfl, by rw [Lib.bytesWorld_size]; omega, fun b hb _ => Lib.bytesWorld_at_old w e s b hb⟩

def QuR (w2 : World) (g0 : Nat) (s : B) (g : Nat) (v vi : Value) (wr : World) : Prop := ∃ i : Nat, i + g = s.length ∧ vi = .int .i64 (i : Nat) ∧ Byt (· = g0) w2 v (34 :: qbody (s.take i)) wr

theorem qbody_succ (s : B) (i : Nat) (c : UInt8) (h : s[i]? = some c) : qbody (s.take (i + 1)) = qbody (s.take i) ++ qch c := by
  rw [List.take_add_one, h]
  simp [qbody]
theorem qch_2 {c : UInt8} (h : c = 34 ∨ c = 92) : qch c = [92, c] := by unfold qch; rw [if_pos h]
theorem qch_4 {c : UInt8} (h : ¬ (c = 34 ∨ c = 92)) (h2 : c < 32 ∨ 126 < c) : qch c = [92, 120, hexc (c / 16), hexc (c % 16)] := by unfold qch; rw [if_neg h, if_pos h2]
theorem qch_1 {c : UInt8} (h : ¬ (c = 34 ∨ c = 92)) (h2 : ¬ (c < 32 ∨ 126 < c)) : qch c = [c] := by unfold qch; rw [if_neg h, if_neg h2]

def hexs : ByteArray := ⟨#[48, 49, 50, 51, 52, 53, 54, 55, 56, 57, 97, 98, 99, 100, 101, 102]⟩
theorem hex_ix_fin : ∀ n : Fin 16, hexs.data[n.val]? = some (hexc (UInt8.ofNat n.val)) := by decide +kernel

theorem QuR.next {W2 wr w9 : World} {g0 i gk L k : Nat} {s : B} {S : Nat → Prop} {us : List Value} {o : Obj} {c : UInt8} {v' vi : Value} (hg : i + gk = s.length) (hlt : i < s.length) (hc : s[i]? = some c)
    (hS : ∀ b, S b → b = g0 ∨ W2.heap.size ≤ b) (ht : Turned (· = g0) W2 wr) (hL : L = (34 :: qbody (s.take i)).length) (q1 : Sl w9 (More S (wr.alloc o)) 5 1 v' (bcells (34 :: qbody (s.take i)) ++ us) (L + k)) (t1 : Turned S (wr.alloc o) w9)
    (hu : us = bcells (qch c)) (hk : k = (qch c).length) (hv : vi = .int .i64 ((i + 1 : Nat) : Int)) : QuR W2 g0 s (gk - 1) v' vi w9 := by
  subst hL hu hk
  have := Byt.app (T := (· = g0)) hS ht q1 t1
  exact ⟨i + 1, by omega, hv, by rw [qbody_succ s i c hc, ← List.cons_append]; exact this⟩

theorem ix_hex (k : Nat) (c : UInt8) (hk : k < 16) (h : c = hexc (UInt8.ofNat k)) (W : World) : (Instr.index 9 (.string ⟨#[48, 49, 50, 51, 52, 53, 54, 55, 56, 57, 97, 98, 99, 100, 101, 102]⟩) (.int .u8 (k : Nat))).run Tryz.prog W = .ok (.int .u8 (c.toNat : Nat)) W := by
  have := hex_ix_fin ⟨k, hk⟩
  rw [← h] at this
  obtain ⟨h1, h2⟩ := Array.getElem?_eq_some_iff.1 this
  rw [run_index_string (P := Tryz.prog) W 9 _ .u8 _ Tryz.underlying9, dif_pos (by simp [ByteArray.size]; omega)]
  have h3 : (⟨#[48, 49, 50, 51, 52, 53, 54, 55, 56, 57, 97, 98, 99, 100, 101, 102]⟩ : ByteArray)[k]'(by simp [ByteArray.size]; omega) = c := h2
  simp only [Int.toNat_natCast, h3]
theorem bits_and15 : ∀ n : Fin 256, bits .and .u8 (n.val : Int) 15 = ((n.val % 16 : Nat) : Int) := by decide +kernel
theorem hex_hi (c : UInt8) (W : World) : (Instr.index 9 (.string ⟨#[48, 49, 50, 51, 52, 53, 54, 55, 56, 57, 97, 98, 99, 100, 101, 102]⟩) (.int .u8 ((c.toNat : Int) / 16))).run Tryz.prog W = .ok (.int .u8 ((hexc (c / 16)).toNat : Nat)) W := by
  have h := c.toNat_lt
  have e : (c.toNat : Int) / 16 = ((c.toNat / 16 : Nat) : Int) := by omega
  rw [e]
  refine ix_hex (c.toNat / 16) _ (by omega) ?_ W
  congr 1
  apply UInt8.toNat_inj.1
  simp
  omega
theorem hex_lo (c : UInt8) (W : World) : (Instr.index 9 (.string ⟨#[48, 49, 50, 51, 52, 53, 54, 55, 56, 57, 97, 98, 99, 100, 101, 102]⟩) (.int .u8 (bits .and .u8 (c.toNat : Int) 15))).run Tryz.prog W = .ok (.int .u8 ((hexc (c % 16)).toNat : Nat)) W := by
  have h := c.toNat_lt
  rw [bits_and15 ⟨c.toNat, h⟩]
  refine ix_hex (c.toNat % 16) _ (by omega) ?_ W
  congr 1
  apply UInt8.toNat_inj.1
  simp
  omega

theorem quote_back {w9 : World} {R : Nat → Prop} {a3 : Option Addr} {cap3 L i : Nat} {s : B} (q1 : Sl w9 R 5 1 (.slice a3 (L + 1) cap3) (bcells (34 :: qbody (s.take i)) ++ [.int .u8 34]) (L + 1)) (hL : L = (34 :: qbody (s.take i)).length) (hE : s.take i = s) :
    (convert 26 9 (.slice a3 (L + 1) cap3)).run Tryz.prog w9 = .ok (.string (bs (quote s))) w9 := by
  rw [hE] at hL q1
  subst hL
  refine sl_back (l := quote s) (R := R) ?_
  have e1 : bcells (34 :: qbody s) ++ [.int .u8 34] = bcells (quote s) := (bcells_app (34 :: qbody s) [34]).symm
  have e2 : (34 :: qbody s).length + 1 = (quote s).length := by simp [quote]
  rw [e1, e2] at q1
  rw [e2]
  exact q1

set_option maxRecDepth 100000 in
set_option maxHeartbeats 4000000 in
theorem quote_any (s : B) (w : World) (hs : s.length ≤ 4000000) : Calls Tryz.prog 17 #[.string (bs s)] w fun e w' => e = .returned (.string (bs (quote s))) ∧ Turned (fun _ => False) w w' := by
  have hcv := Lib.run_convert_string_bytes (w.alloc (.cells #[.int .u8 34] 5)) 9 26 5 (bs s) Tryz.underlying9 Tryz.underlying26 Tryz.underlying5
  obtain ⟨W2, hW2⟩ : ∃ W2, W2 = Lib.bytesWorld (w.alloc (.cells #[.int .u8 34] 5)) 5 (bs s) := ⟨_, rfl⟩
  have t2 : Turned (fun _ => False) (w.alloc (.cells #[.int .u8 34] 5)) W2 := by rw [hW2]; exact bytes_turned _ _ _
  have hz : (w.alloc (.cells #[.int .u8 34] 5)).heap.size = w.heap.size + 1 := by simp
  have HC : Hid (∀ j c, s[j]? = some c → W2.cell? ⟨w.heap.size + 1, j, none⟩ = some (.int .u8 (c.toNat : Nat))) := fun j c hc => by
    have hj := (List.getElem?_eq_some_iff.1 hc).1
    have := Lib.bytesWorld_cell (w.alloc (.cells #[.int .u8 34] 5)) 5 (bs s) j (by rw [bs_size]; exact hj)
    rw [← hW2, hz] at this
    rw [this]
    simp [hc]
  have S2 : Sl W2 (· = w.heap.size) 5 1 (.slice (some ⟨w.heap.size, 0, none⟩) 1 1) (bcells [34]) 1 :=
    ⟨rfl, .inr ⟨w.heap.size, 0, 1, _, rfl, rfl, (t2.block _ (by omega) id).trans (heap_alloc_new w _), Nat.le_refl _, by simp [maxLen], by simp, rfl⟩⟩
  have SZ : Hid (W2.heap.size = w.heap.size + 2) := hidS (by rw [hW2, Lib.bytesWorld_size, hz])
  have T2 : Hid (Turned (fun _ => False) w W2) := (Turned.alloc (fun _ => False) w _).trans t2 fun _ _ q => q
  have B0 : Hid (QuR W2 w.heap.size s s.length (.slice (some ⟨w.heap.size, 0, none⟩) 1 1) (.int .i64 0) W2) := ⟨0, by omega, rfl, ⟨_, by simpa [qbody] using S2, fun b q => .inl q⟩, Turned.refl _ _⟩
  rw [bs_size, ← hW2, hz] at hcv
  have HS : Hid (s.length ≤ 4000000) := hs
  generalize bs s = x at *
  generalize Go.grownCap (w.alloc (.cells #[.int .u8 34] 5)) s.length 0 5 = cap at *
  clear t2 hz S2 hW2 hs
  go_enter Tryz.func17, Tryz.ntmps17
  go_wp2
  go_loopg [3, 10] s.length (fun g v vi wr => QuR W2 w.heap.size s g v vi wr)
  case atStart => exact B0.out
  case round =>
    obtain ⟨i, hig, rfl, ⟨S, hsl, hS⟩, ht⟩ := hrel
    obtain ⟨a1, cap1, rfl, -, -⟩ := hsl.value
    have G : Hid (i + gk = s.length) := hig
    have SL : Hid (Sl wr S 5 1 (.slice a1 (34 :: qbody (s.take i)).length cap1) (bcells (34 :: qbody (s.take i))) (34 :: qbody (s.take i)).length) := hsl
    have AP : Hid (∀ b, S b → b = w.heap.size ∨ W2.heap.size ≤ b) := hS
    have T : Hid (Turned (· = w.heap.size) W2 wr) := ht
    obtain ⟨L, hL⟩ : ∃ L, L = (34 :: qbody (s.take i)).length := ⟨_, rfl⟩
    have HL : Hid (L = (34 :: qbody (s.take i)).length) := hL
    rw [← hL]
    have hLb : L ≤ 16000001 := by
      have := (qbody_len (s.take i)).2
      have := HS.out
      have : (s.take i).length ≤ s.length := by simp; omega
      rw [hL, List.length_cons]; omega
    have M : ∀ k, k ≤ 4 → Hid (L + k ≤ maxLen ∧ (L + k) * 1 ≤ 140737488355328) := fun k hk => hidS ⟨by simp only [maxLen]; omega, by omega⟩
    clear hig hsl hS ht B0 hL hLb
    by_cases hlt : i < s.length
    · obtain ⟨c, hc⟩ : ∃ c, s[i]? = some c := ⟨_, List.getElem?_eq_getElem hlt⟩
      have HCI : Hid (s[i]? = some c) := hc
      have HLT : Hid (i < s.length) := hlt
      have hcell : wr.cell? ⟨w.heap.size + 1, i, none⟩ = some (.int .u8 (c.toNat : Nat)) := by
        rw [← HC.out i c hc]
        simp only [World.cell?, T.out.block (w.heap.size + 1) (by rw [SZ.out]; omega) (by simp)]
      have hd1 : decide ((i : Int) < (s.length : Int)) = true := by simp; omega
      have hd2 : decide (i < s.length) = true := by simp; omega
      have HW : Hid (wrap64 ((i : Int) + 1) = ((i + 1 : Nat) : Int)) := hidS (w64_in _ (by have := HS.out; omega))
      clear hc
      by_cases q34 : c = 34
      · subst q34
        change wr.cell? ⟨w.heap.size + 1, i, none⟩ = some (.int .u8 34) at hcell
        have A1 : Hid (Sl (wr.alloc (.cells #[.int .u8 92, .int .u8 34] 5)) S 5 1 (.slice a1 L cap1) (bcells (34 :: qbody (s.take i))) L) := hidS ((HL.out ▸ SL.out).turned (Turned.alloc (fun _ => False) wr _) (fun _ _ q => q))
        have SC : Hid (Src Tryz.prog 1 26 (.slice (some ⟨wr.heap.size, 0, none⟩) 2 2) 2 [.int .u8 92, .int .u8 34] (wr.alloc (.cells #[.int .u8 92, .int .u8 34] 5))) := src_row Tryz.underlying26 [.int .u8 92, .int .u8 34] (by intro u hu; simp at hu; (repeat' rcases hu with rfl | hu) <;> (try subst hu) <;> rfl) wr
        go_wp2_with (at_builtin; refine wpList_append rfl _ _ 26 26 rfl A1.out Tryz.underlying26 info5 rfl (by decide) rfl (.slice (some ⟨wr.heap.size, 0, none⟩) 2 2) rfl SC.out (M 2 (by decide)).out.1 (M 2 (by decide)).out.2 ?_; intro x4 w9 q1 t1; obtain ⟨a3, cap3, hv3, -, -⟩ := q1.value; subst hv3; have Q1 := hid_two q1 t1; clear q1 t1)
        go_roundg (gk - 1)
        case measure => have := G.out; have := HLT.out; omega
        case rel => exact QuR.next G.out HLT.out HCI.out AP.out T.out HL.out Q1.out.1 Q1.out.2 rfl rfl (by rw [HW.out])
      by_cases q92 : c = 92
      · subst q92
        change wr.cell? ⟨w.heap.size + 1, i, none⟩ = some (.int .u8 92) at hcell
        have A1 : Hid (Sl (wr.alloc (.cells #[.int .u8 92, .int .u8 92] 5)) S 5 1 (.slice a1 L cap1) (bcells (34 :: qbody (s.take i))) L) := hidS ((HL.out ▸ SL.out).turned (Turned.alloc (fun _ => False) wr _) (fun _ _ q => q))
        have SC : Hid (Src Tryz.prog 1 26 (.slice (some ⟨wr.heap.size, 0, none⟩) 2 2) 2 [.int .u8 92, .int .u8 92] (wr.alloc (.cells #[.int .u8 92, .int .u8 92] 5))) := src_row Tryz.underlying26 [.int .u8 92, .int .u8 92] (by intro u hu; simp at hu; (repeat' rcases hu with rfl | hu) <;> (try subst hu) <;> rfl) wr
        go_wp2_with (at_builtin; refine wpList_append rfl _ _ 26 26 rfl A1.out Tryz.underlying26 info5 rfl (by decide) rfl (.slice (some ⟨wr.heap.size, 0, none⟩) 2 2) rfl SC.out (M 2 (by decide)).out.1 (M 2 (by decide)).out.2 ?_; intro x4 w9 q1 t1; obtain ⟨a3, cap3, hv3, -, -⟩ := q1.value; subst hv3; have Q1 := hid_two q1 t1; clear q1 t1)
        go_roundg (gk - 1)
        case measure => have := G.out; have := HLT.out; omega
        case rel => exact QuR.next G.out HLT.out HCI.out AP.out T.out HL.out Q1.out.1 Q1.out.2 rfl rfl (by rw [HW.out])
      have n34 : ((c.toNat : Int) == 34) = false := by
        have : c.toNat ≠ 34 := fun q => q34 (UInt8.toNat_inj.1 q)
        simp; omega
      have n92 : ((c.toNat : Int) == 92) = false := by
        have : c.toNat ≠ 92 := fun q => q92 (UInt8.toNat_inj.1 q)
        simp; omega
      have qn : ¬ (c = 34 ∨ c = 92) := fun q => q.elim q34 q92
      clear q34 q92
      by_cases qb : c < 32 ∨ 126 < c
      · have hbad : c.toNat < 32 ∨ 126 < c.toNat := qb
        have HQ : Hid (qch c = [92, 120, hexc (c / 16), hexc (c % 16)]) := qch_4 qn qb
        have hl := c.toNat_lt
        have A4 : Hid (∀ x y, Sl ((wr.alloc (.cells #[.int .u8 92, .int .u8 120, x, y] 5)).drew) S 5 1 (.slice a1 L cap1) (bcells (34 :: qbody (s.take i))) L) := hidS fun x y => ((HL.out ▸ SL.out).turned (Turned.alloc (fun _ => False) wr _) (fun _ _ q => q)).drew
        have SC4 : Hid (∀ p q : Nat, Src Tryz.prog 1 26 (.slice (some ⟨wr.heap.size, 0, none⟩) 4 4) 4 [.int .u8 92, .int .u8 120, .int .u8 p, .int .u8 q] ((wr.alloc (.cells #[.int .u8 92, .int .u8 120, .int .u8 p, .int .u8 q] 5)).drew)) := hidS fun p q => src_row (w := wr.drew) Tryz.underlying26 [.int .u8 92, .int .u8 120, .int .u8 p, .int .u8 q] (by intro u hu; simp at hu; (repeat' rcases hu with rfl | hu) <;> (try subst hu) <;> rfl)
        have hx1 := hex_hi c
        have hx2 := hex_lo c
        clear qn qb
        by_cases hb1 : c.toNat < 32
        · have e1 : decide ((c.toNat : Int) < 32) = true := by simp; omega
          have e2 : decide (c.toNat < 32) = true := by simp; omega
          clear hbad hb1 hlt
          go_wp2
          go_region_law ((refine step_append (by rfl) _ _ 26 26 (by rfl) (A4.out _ _) Tryz.underlying26 info5 rfl (by decide) (by rfl) (.slice (some ⟨wr.heap.size, 0, none⟩) 4 4) (by rfl) (SC4.out _ _) (M 4 (by decide)).out.1 (M 4 (by decide)).out.2 ?_; intro x4 w9 q1 t1; obtain ⟨a3, cap3, hv3, -, -⟩ := q1.value; subst hv3; have Q1 := hid_two q1 t1; clear q1 t1))
          all_goals go_wp2
          all_goals
            go_roundg (gk - 1)
            case measure => have := G.out; have := HLT.out; omega
            case rel => exact QuR.next (o := .cells #[.int .u8 92, .int .u8 120, .int .u8 ((hexc (c / 16)).toNat : Nat), .int .u8 ((hexc (c % 16)).toNat : Nat)] 5) G.out HLT.out HCI.out AP.out T.out HL.out Q1.out.1 ((Turned.drew S _).trans Q1.out.2 fun _ _ q => q) (by rw [HQ.out]; rfl) (by rw [HQ.out]; rfl) (by rw [HW.out])
        · have e1 : decide ((c.toNat : Int) < 32) = false := by simp; omega
          have e2 : decide (c.toNat < 32) = false := by simp; omega
          have e3 : decide ((126 : Int) < (c.toNat : Int)) = true := by simp; omega
          have e4 : decide (126 < c.toNat) = true := by simp; omega
          clear hbad hb1 hlt
          go_wp2
          go_region_law ((refine step_append (by rfl) _ _ 26 26 (by rfl) (A4.out _ _) Tryz.underlying26 info5 rfl (by decide) (by rfl) (.slice (some ⟨wr.heap.size, 0, none⟩) 4 4) (by rfl) (SC4.out _ _) (M 4 (by decide)).out.1 (M 4 (by decide)).out.2 ?_; intro x4 w9 q1 t1; obtain ⟨a3, cap3, hv3, -, -⟩ := q1.value; subst hv3; have Q1 := hid_two q1 t1; clear q1 t1))
          all_goals go_wp2
          all_goals
            go_roundg (gk - 1)
            case measure => have := G.out; have := HLT.out; omega
            case rel => exact QuR.next (o := .cells #[.int .u8 92, .int .u8 120, .int .u8 ((hexc (c / 16)).toNat : Nat), .int .u8 ((hexc (c % 16)).toNat : Nat)] 5) G.out HLT.out HCI.out AP.out T.out HL.out Q1.out.1 ((Turned.drew S _).trans Q1.out.2 fun _ _ q => q) (by rw [HQ.out]; rfl) (by rw [HQ.out]; rfl) (by rw [HW.out])
      · have hgood : 32 ≤ c.toNat ∧ c.toNat ≤ 126 := by
          have h1 : ¬ c.toNat < 32 := fun q => qb (.inl q)
          have h2 : ¬ 126 < c.toNat := fun q => qb (.inr q)
          omega
        have HQ : Hid (qch c = [c]) := qch_1 qn qb
        have e1 : decide ((c.toNat : Int) < 32) = false := by simp; omega
        have e2 : decide (c.toNat < 32) = false := by simp; omega
        have e3 : decide ((126 : Int) < (c.toNat : Int)) = false := by simp; omega
        have e4 : decide (126 < c.toNat) = false := by simp; omega
        clear qn qb hgood
        have A1 : Hid (Sl (wr.alloc (.cells #[.int .u8 (c.toNat : Nat)] 5)) S 5 1 (.slice a1 L cap1) (bcells (34 :: qbody (s.take i))) L) := hidS ((HL.out ▸ SL.out).turned (Turned.alloc (fun _ => False) wr _) (fun _ _ q => q))
        have SC : Hid (Src Tryz.prog 1 26 (.slice (some ⟨wr.heap.size, 0, none⟩) 1 1) 1 [.int .u8 (c.toNat : Nat)] (wr.alloc (.cells #[.int .u8 (c.toNat : Nat)] 5))) := src_row Tryz.underlying26 [.int .u8 (c.toNat : Nat)] (by intro u hu; simp at hu; (repeat' rcases hu with rfl | hu) <;> (try subst hu) <;> rfl) wr
        go_wp2_with (at_builtin; refine wpList_append rfl _ _ 26 26 rfl A1.out Tryz.underlying26 info5 rfl (by decide) rfl (.slice (some ⟨wr.heap.size, 0, none⟩) 1 1) rfl SC.out (M 1 (by decide)).out.1 (M 1 (by decide)).out.2 ?_; intro x4 w9 q1 t1; obtain ⟨a3, cap3, hv3, -, -⟩ := q1.value; subst hv3; have Q1 := hid_two q1 t1; clear q1 t1)
        go_roundg (gk - 1)
        case measure => have := G.out; have := HLT.out; omega
        case rel => exact QuR.next G.out HLT.out HCI.out AP.out T.out HL.out Q1.out.1 Q1.out.2 (by rw [HQ.out]; rfl) (by rw [HQ.out]; rfl) (by rw [HW.out])
    · have hd1 : decide ((i : Int) < (s.length : Int)) = false := by simp; omega
      have hd2 : decide (i < s.length) = false := by simp; omega
      have HE : Hid (s.take i = s) := hidS (List.take_of_length_le (by omega))
      clear hlt
      have A1 : Hid (Sl (wr.alloc (.cells #[.int .u8 34] 5)) S 5 1 (.slice a1 L cap1) (bcells (34 :: qbody (s.take i))) L) := hidS ((HL.out ▸ SL.out).turned (Turned.alloc (fun _ => False) wr _) (fun _ _ q => q))
      have SC : Hid (Src Tryz.prog 1 26 (.slice (some ⟨wr.heap.size, 0, none⟩) 1 1) 1 [.int .u8 34] (wr.alloc (.cells #[.int .u8 34] 5))) := src_row Tryz.underlying26 [.int .u8 34] (by intro u hu; simp at hu; (repeat' rcases hu with rfl | hu) <;> (try subst hu) <;> rfl) wr
      go_wp2_with (at_builtin; refine wpList_append rfl _ _ 26 26 rfl A1.out Tryz.underlying26 info5 rfl (by decide) rfl (.slice (some ⟨wr.heap.size, 0, none⟩) 1 1) rfl SC.out (M 1 (by decide)).out.1 (M 1 (by decide)).out.2 ?_; intro x4 w9 q1 t1; obtain ⟨a3, cap3, hv3, -, -⟩ := q1.value; subst hv3; have Q1 := hid_two q1 t1; have hb := quote_back q1 HL.out HE.out; clear q1 t1)
      go_ret
      exact ⟨rfl, (T2.out.trans (T.out.comp ((Turned.alloc S wr _).trans Q1.out.2 fun _ _ q => q) (T := (· = w.heap.size)) fun b hb q => q.elim id fun q => (AP.out b q).resolve_right (by omega)) (S' := (· = w.heap.size)) fun b hb q => by omega)⟩
end Go.Proofs.YteblabpplaaddaaGreatDoor

set_option linter.unusedVariables false
set_option linter.unusedSimpArgs false
namespace Go.Proofs.YteblabpplaaddaaGreatDoor
open Go.RowKit Go.Mine Go.Mine.Sc

/-- what a call has laid, of blocks newer than w1 -/
def Own (w1 : World) (e : TypeId) (size : Nat) (v : Value) (xs : List Value) (n : Nat) (wr : World) : Prop := (∃ S, Sl wr S e size v xs n ∧ ∀ b, S b → w1.heap.size ≤ b) ∧ Turned (fun _ => False) w1 wr
theorem Own.nil (w : World) (e : TypeId) (size : Nat) : Own w e size (.slice none 0 0) [] 0 w := ⟨⟨fun _ => False, Sl.nil _ _ _ _, fun _ q => q.elim⟩, Turned.refl _ _⟩
theorem Own.turned {w1 wr w' : World} {e : TypeId} {size n : Nat} {v : Value} {xs : List Value} (h : Own w1 e size v xs n wr) (ht : Turned (fun _ => False) wr w') : Own w1 e size v xs n w' := by
  obtain ⟨⟨S, h1, h2⟩, h3⟩ := h
  exact ⟨⟨S, h1.turned ht fun _ _ q => q, h2⟩, h3.trans ht fun _ _ q => q⟩
theorem own_app {w1 wr wx w9 : World} {S : Nat → Prop} {e : TypeId} {size n k : Nat} {xs us : List Value} {v' : Value} (hS : ∀ b, S b → w1.heap.size ≤ b) (ht : Turned (fun _ => False) w1 wr) (hx : Turned (fun _ => False) wr wx)
    (q1 : Sl w9 (More S wx) e size v' (xs ++ us) (n + k)) (t1 : Turned S wx w9) : Own w1 e size v' (xs ++ us) (n + k) w9 := by
  have s1 := ht.size
  have s2 := hx.size
  refine ⟨⟨_, q1, ?_⟩, (ht.trans hx fun _ _ q => q).comp t1 fun b hb q => ?_⟩
  · rintro b (q | q)
    · exact hS b q
    · omega
  · rcases q with q | q
    · exact q
    · have := hS b q; omega
theorem icells_at {l : List Int} {j : Nat} {x : Int} (h : l[j]? = some x) : (icells l)[j]? = some (.int .i64 x) := by simp [icells, h]

/-- words that a call hands back -/
def StrsPost (w : World) (l : List B) (e : Ending) (w' : World) : Prop := ∃ v, e = .returned v ∧ Own w 9 1 v (scells l) l.length w'
def DgR (w : World) (l : List Int) (g : Nat) (v vi : Value) (wr : World) : Prop := ∃ i : Nat, i + g = l.length ∧ vi = .int .i64 (i : Nat) ∧ Own w 9 1 v (scells ((l.take i).map Lib.itoa)) i wr

set_option maxRecDepth 100000 in
set_option maxHeartbeats 4000000 in
theorem digits_any (w0 w : World) (hL : Lw w0 w) (R : Nat → Prop) (a : Option Addr) (cap : Nat) (l : List Int) (h : Rd w R 1 (.slice a l.length cap) (icells l) l.length) (hi : ∀ n ∈ l, I64 n) (hl : l.length ≤ 4000000) :
    Calls Tryz.prog 65 #[.slice a l.length cap] w (StrsPost w (l.map Lib.itoa)) := by
  have H : Hid (Rd w R 1 (.slice a l.length cap) (icells l) l.length ∧ (∀ n ∈ l, I64 n) ∧ l.length ≤ 4000000 ∧ Lw w0 w) := ⟨h, hi, hl, hL⟩
  obtain ⟨n, hn⟩ : ∃ n, n = l.length := ⟨_, rfl⟩
  have HN : Hid (n = l.length) := hn
  rw [← hn]
  have B0 : Hid (DgR w l n (.slice none 0 0) (.int .i64 0) w) := ⟨0, by omega, rfl, Own.nil _ _ _⟩
  clear h hi hl hL hn
  go_enter Tryz.func65, Tryz.ntmps65
  go_wp2
  go_loopg [3, 8] n (fun g v vi wr => DgR w l g v vi wr)
  case atStart => exact B0.out
  case round =>
    obtain ⟨i, hig, rfl, ⟨S, hsl, hS⟩, ht⟩ := hrel
    obtain ⟨a1, cap1, rfl, -, -⟩ := hsl.value
    have G : Hid (i + gk = l.length) := hig
    have SL : Hid (Sl wr S 9 1 (.slice a1 i cap1) (scells ((l.take i).map Lib.itoa)) i) := hsl
    have AP : Hid (∀ b, S b → w.heap.size ≤ b) := hS
    have T : Hid (Turned (fun _ => False) w wr) := ht
    clear hig hsl hS ht B0
    by_cases hlt : i < n
    · obtain ⟨x, hx⟩ : ∃ x, l[i]? = some x := ⟨_, List.getElem?_eq_getElem (by rw [← HN.out]; exact hlt)⟩
      obtain ⟨g1, o1, rfl, hg1, c1⟩ := ints_rd (H.out.1.turned T.out fun _ _ q => q) i x hx
      have h66 := itoa_any x (H.out.2.1 x (List.mem_of_getElem? hx)) w0 wr (H.out.2.2.2.turned0 T.out)
      have HX : Hid (l[i]? = some x) := hx
      have hd1 : decide ((i : Int) < (n : Int)) = true := by simp; omega
      have hd2 : decide (i < n) = true := by simp; omega
      have HLT : Hid (i < n ∧ n ≤ 4000000) := ⟨hlt, by have := HN.out; have := H.out.2.2.1; omega⟩
      have HW : Hid (wrap64 ((i : Int) + 1) = ((i + 1 : Nat) : Int)) := hidS (w64_in _ (by have := HLT.out; omega))
      have m1 : Hid (i + 1 ≤ maxLen ∧ (i + 1) * 16 ≤ 140737488355328) := hidS (by have := HLT.out; simp only [maxLen]; omega)
      clear hx
      obtain ⟨y, hy⟩ : ∃ y, y = bs (Lib.itoa x) := ⟨_, rfl⟩
      have HY : Hid (y = bs (Lib.itoa x)) := hy
      rw [← hy] at h66
      clear hy
      go_wp2_with (first
        | (go_at_call 66; (with_reducible refine h66.mono ?_); rintro e w2 ⟨rfl, ht2⟩
           have T2 : Hid (Turned (fun _ => False) wr w2) := ht2
           have A1 : Hid (Sl (w2.alloc (.cells #[.string y] 9)) S 9 1 (.slice a1 i cap1) (scells ((l.take i).map Lib.itoa)) i) := (SL.out.turned ht2 (fun b q z => z)).turned (Turned.alloc (fun _ => False) w2 _) (fun _ _ q => q)
           clear ht2 h66)
        | (at_builtin; refine wpList_append rfl _ _ 24 24 rfl A1.out Tryz.underlying24 info9 rfl (by decide) rfl (.slice (some ⟨w2.heap.size, 0, none⟩) 1 1) rfl (src_one Tryz.underlying24 (.string y) rfl w2) m1.out.1 m1.out.2 ?_
           intro x4 w9 q1 t1
           obtain ⟨a3, cap3, hv3, -, -⟩ := q1.value
           subst hv3
           have Q1 := hid_two q1 t1
           clear q1 t1))
      go_roundg (gk - 1)
      case measure => have := G.out; have := HLT.out; have := HN.out; omega
      case rel =>
        refine ⟨i + 1, by have := G.out; have := HLT.out; have := HN.out; omega, by rw [HW.out], ?_⟩
        have e : scells ((l.take (i + 1)).map Lib.itoa) = scells ((l.take i).map Lib.itoa) ++ [.string y] := by
          rw [List.take_add_one, HX.out, HY.out]; simp [scells]
        rw [e]
        exact own_app AP.out T.out (T2.out.trans (Turned.alloc (fun _ => False) w2 _) fun _ _ q => q) Q1.out.1 Q1.out.2
    · have hd1 : decide ((i : Int) < (n : Int)) = false := by simp; omega
      have hd2 : decide (i < n) = false := by simp; omega
      have HE : Hid (i = n ∧ l.take i = l) := ⟨by have := G.out; have := HN.out; omega, List.take_of_length_le (by have := HN.out; omega)⟩
      clear hlt
      go_wp2
      go_ret
      refine ⟨_, rfl, ?_⟩
      obtain ⟨rfl, h2⟩ := HE.out
      have h3 := SL.out
      rw [h2] at h3
      rw [List.length_map, ← HN.out]
      exact ⟨⟨S, h3, AP.out⟩, T.out⟩
end Go.Proofs.YteblabpplaaddaaGreatDoor

set_option linter.unusedVariables false
set_option linter.unusedSimpArgs false
namespace Go.Proofs.YteblabpplaaddaaGreatDoor
open Go.RowKit Go.Mine Go.Mine.Sc

theorem nameIn_mem : ∀ (l : List (Int × B)) (p : Int × B), (l.map (·.1)).Nodup → p ∈ l → nameIn l p.1 = p.2
  | [], p, _, h => by simp at h
  | q :: l, p, hn, h => by
    rw [List.map_cons, List.nodup_cons] at hn
    rcases List.mem_cons.1 h with rfl | h
    · simp [nameIn]
    · have hne : q.1 ≠ p.1 := fun e => hn.1 (e ▸ List.mem_map_of_mem h)
      have := nameIn_mem l p hn.2 h
      simp only [nameIn, List.find?_cons] at this ⊢
      rw [show (q.1 == p.1) = false by simpa using hne]
      exact this
theorem nameIn_none (l : List (Int × B)) (k : Int) (h : ∀ p ∈ l, p.1 ≠ k) : nameIn l k = [] := by
  unfold nameIn
  rw [List.find?_eq_none.2 (by simpa using h)]
theorem look_names (W : World) (b n : Nat) (l : List (Int × B)) (hnd : (l.map (·.1)).Nodup) (h : W.heap[b]? = some (.map (mapEa l) n)) (k : Int) :
    (Instr.lookup 97 (.map (some b)) (.int .i64 k) false).run Tryz.prog W = .ok (.agg #[.string (bs (nameIn l k))]) W := by
  have O := plain_keyOk (P := Tryz.prog) (kt := 3) Tryz.underlying3
  have hx : MapKept.IsKey (.int .i64) (.int .i64 k) := (rfl : IntKind.i64 = IntKind.i64)
  have hk : ∀ e ∈ (mapEa l).toList, MapKept.IsKey (.int .i64) e.key := fun e he => by
    obtain ⟨p, -, j, -, -, rfl⟩ := mapEs_mem 0 l e (by simpa [mapEa] using he)
    exact (rfl : IntKind.i64 = IntKind.i64)
  rcases O.find W hx (mapEa l).toList hk with ⟨f1, f2⟩ | ⟨j, e, f1, f2, f3⟩
  · have hn : nameIn l k = [] := nameIn_none l k fun p hp hpk => by
      obtain ⟨j, hj⟩ := List.getElem?_of_mem hp
      have := mapEs_has 0 l j p hj
      exact f2 _ (by simpa [mapEa] using this) (by simp [hpk])
    simp [Instr.lookup, run_underlying Tryz.underlying97, MapKept.run_getObj_map h, O.check W _ hx, f1, Tryz.zeroValue107, Result.andThen, hn]
  · obtain ⟨p, hp, j', -, -, rfl⟩ := mapEs_mem 0 l e (by simpa [mapEa] using List.mem_of_getElem? f2)
    have hpk : p.1 = k := by simpa using f3
    have hn : nameIn l k = p.2 := by rw [← hpk]; exact nameIn_mem l p hnd hp
    simp [Instr.lookup, run_underlying Tryz.underlying97, MapKept.run_getObj_map h, O.check W _ hx, f1, Result.andThen, hn]
theorem c_nodup : (cnames.map (·.1)).Nodup := by decide
theorem q_nodup : (qnames.map (·.1)).Nodup := by decide
/-- the names' map, and a look-up in it -/
theorem names_look (w : World) : Calls Tryz.prog 51 #[] w fun e w' => e = .returned (.map (some w.heap.size)) ∧ (∀ k, (Instr.lookup 97 (.map (some w.heap.size)) (.int .i64 k) false).run Tryz.prog w' = .ok (.agg #[.string (bs (nameIn cnames k))]) w') ∧ Turned (fun _ => False) w w' :=
  (names_any w).mono fun e w' ⟨h1, h2, h3⟩ => ⟨h1, look_names w' _ _ cnames c_nodup h2, h3⟩
theorem questions_look (w : World) : Calls Tryz.prog 58 #[] w fun e w' => e = .returned (.map (some w.heap.size)) ∧ (∀ k, (Instr.lookup 97 (.map (some w.heap.size)) (.int .i64 k) false).run Tryz.prog w' = .ok (.agg #[.string (bs (nameIn qnames k))]) w') ∧ Turned (fun _ => False) w w' :=
  (questions_any w).mono fun e w' ⟨h1, h2, h3⟩ => ⟨h1, look_names w' _ _ qnames q_nodup h2, h3⟩
end Go.Proofs.YteblabpplaaddaaGreatDoor
