/- A script's commands as lines: plain; and read back. -/
import Derived.Test.YteblabpplaaddaaDoorSr
import Derived.Test.YteblabpplaaddaaDoorSs
set_option linter.unusedVariables false
set_option linter.unusedSimpArgs false
namespace Go.Mine.Sc
open Go.Lib

/-! ### A quoted text -/
def hexc (n : UInt8) : UInt8 := if n < 10 then 48 + n else 87 + n
def qch (c : UInt8) : B := if c = 34 ∨ c = 92 then [92, c] else if c < 32 ∨ 126 < c then [92, 120, hexc (c / 16), hexc (c % 16)] else [c]
def qbody (s : B) : B := s.flatMap qch
def quote (s : B) : B := 34 :: (qbody s ++ [34])

theorem qch_fin : ∀ n : Fin 256, (hexv (hexc (UInt8.ofNat n.val / 16)) = some (UInt8.ofNat n.val / 16) ∧ hexv (hexc (UInt8.ofNat n.val % 16)) = some (UInt8.ofNat n.val % 16) ∧ 16 * (UInt8.ofNat n.val / 16) + UInt8.ofNat n.val % 16 = UInt8.ofNat n.val) ∧
    (∀ c ∈ qch (UInt8.ofNat n.val), 32 ≤ c ∧ c ≤ 126) := by decide +kernel
theorem u8_nat (c : UInt8) : UInt8.ofNat c.toNat = c := by simp
theorem qch_hex (c : UInt8) : hexv (hexc (c / 16)) = some (c / 16) ∧ hexv (hexc (c % 16)) = some (c % 16) ∧ 16 * (c / 16) + c % 16 = c := by
  have := (qch_fin ⟨c.toNat, c.toNat_lt⟩).1
  rwa [u8_nat] at this
theorem qch_fit (c : UInt8) : ∀ x ∈ qch c, 32 ≤ x ∧ x ≤ 126 := by
  have := (qch_fin ⟨c.toNat, c.toNat_lt⟩).2
  rwa [u8_nat] at this

theorem qf_qch (acc : B) (c : UInt8) (t : B) : qf acc (qch c ++ t) = qf (acc ++ [c]) t := by
  unfold qch
  split
  · rename_i h
    have : esc (c :: t) = some (c, 1) := by
      rcases h with rfl | rfl <;> rfl
    rw [List.cons_append, List.cons_append, List.nil_append, qf_esc _ _ _ _ this]
    rfl
  · rename_i h
    split
    · obtain ⟨h1, h2, h3⟩ := qch_hex c
      have : esc (120 :: hexc (c / 16) :: hexc (c % 16) :: t) = some (c, 3) := by
        simp only [esc]
        rw [if_neg (by decide), if_neg (by decide), if_pos trivial, h1, h2]
        simp only [h3]
      rw [List.cons_append, List.cons_append, List.cons_append, List.cons_append, List.nil_append, qf_esc _ _ _ _ this]
      rfl
    · rename_i h2
      rw [List.cons_append, List.nil_append, qf_plain _ _ _ (fun q => h (.inl q)) h2 (fun q => h (.inr q))]

theorem qf_qbody : ∀ (s acc t : B), qf acc (qbody s ++ 34 :: t) = some (acc ++ s, t)
  | [], acc, t => by simp [qbody, qf_end]
  | c :: s, acc, t => by
    rw [qbody, List.flatMap_cons, List.append_assoc, qf_qch]
    have := qf_qbody s (acc ++ [c]) t
    rw [qbody] at this
    rw [this]; simp
theorem pText_quote (s t : B) : pText (32 :: (quote s ++ t)) = some (s, t) := by
  have := qf_qbody s [] t
  simp only [quote, List.cons_append, List.append_assoc, List.nil_append, pText]
  simpa using this
theorem quote_fit (s : B) : ∀ x ∈ quote s, 32 ≤ x ∧ x ≤ 126 := by
  intro x hx
  simp only [quote, qbody, List.mem_cons, List.mem_append, List.mem_flatMap, List.not_mem_nil, or_false] at hx
  rcases hx with rfl | ⟨c, -, hc⟩ | rfl
  · decide
  · exact qch_fit c x hc
  · decide
theorem quote_inj {s t : B} (h : quote s = quote t) : s = t := by
  have h1 := pText_quote s []
  rw [h, pText_quote t []] at h1
  injection h1 with h1; injection h1 with h1; exact h1.symm
theorem qch_len (c : UInt8) : 1 ≤ (qch c).length ∧ (qch c).length ≤ 4 := by unfold qch; split; · simp
                                                                            · split <;> simp
theorem qbody_len : ∀ (s : B), s.length ≤ (qbody s).length ∧ (qbody s).length ≤ 4 * s.length
  | [] => by simp [qbody]
  | c :: s => by
    have := qbody_len s
    have := qch_len c
    simp only [qbody, List.flatMap_cons, List.length_append, List.length_cons] at *
    omega
theorem quote_len (s : B) : s.length + 2 ≤ (quote s).length ∧ (quote s).length ≤ 4 * s.length + 2 := by
  have := qbody_len s
  simp [quote]; omega

/-! ### Words -/
/-- words behind a name, a blank ahead of each -/
def tailW (l : List B) : B := l.flatMap fun x => 32 :: x
theorem tailW_nil : tailW [] = [] := rfl
theorem tailW_cons (x : B) (l : List B) : tailW (x :: l) = 32 :: (x ++ tailW l) := by simp [tailW]
theorem tailW_app (a b : List B) : tailW (a ++ b) = tailW a ++ tailW b := by simp [tailW]
theorem tailW_head (l : List B) : tailW l = [] ∨ (tailW l).head? = some 32 := by
  cases l with
  | nil => exact .inl rfl
  | cons x l => exact .inr (by rw [tailW_cons]; rfl)

theorem pNum_itoa {n : Int} (hn : I64 n) {r : B} (hr : r = [] ∨ r.head? = some 32) : pNum (32 :: (itoa n ++ r)) = some (n, r) := rNum_pNum (rNum_itoa n r hn (noDig_of hr)) hr
theorem pNums_tail : ∀ (l : List Int), (∀ n ∈ l, I64 n) → pNums (tailW (l.map itoa)) = some l
  | [], _ => pNums_nil
  | n :: l, h => by
    rw [List.map_cons, tailW_cons, pNums_some (pNum_itoa (h n (List.mem_cons_self ..)) (tailW_head _)), pNums_tail l fun x hx => h x (List.mem_cons_of_mem _ hx)]
    rfl
theorem pMany_tail : ∀ (l : List Int), (∀ n ∈ l, I64 n) → pMany l.length (tailW (l.map itoa)) = some (l, [])
  | [], _ => rfl
  | n :: l, h => by
    rw [List.map_cons, tailW_cons, List.length_cons, pMany, pNum_itoa (h n (List.mem_cons_self ..)) (tailW_head _)]
    simp only []
    rw [pMany_tail l fun x hx => h x (List.mem_cons_of_mem _ hx)]
    rfl
def treeW (l : List (B × Int)) : List B := l.flatMap fun e => [quote e.1, itoa e.2]
theorem pTree_tail : ∀ (l : List (B × Int)), (∀ e ∈ l, 0 ≤ e.2 ∧ e.2 < 4294967296) → pTree (tailW (treeW l)) = some l
  | [], _ => pTree_nil
  | e :: l, h => by
    have he := h e (List.mem_cons_self ..)
    have e1 : tailW (treeW (e :: l)) = 32 :: (quote e.1 ++ 32 :: (itoa e.2 ++ tailW (treeW l))) := by
      simp [treeW, tailW]
    rw [e1, pTree_some (pText_quote e.1 _) (show pSmall _ = some (e.2, tailW (treeW l)) by
      unfold pSmall; rw [pNum_itoa (by unfold I64; omega) (tailW_head _)]; simp only []; rw [if_pos he]), pTree_tail l fun x hx => h x (List.mem_cons_of_mem _ hx)]
    rfl

/-! ### A command's line -/
/-- has a command what its kind needs? -/
def fitS (c : Cmd) : Prop :=
  if c.kind = 1 then c.nums.length = 6 ∧ 0 ≤ c.nums.getD 4 0 ∧ c.nums.getD 4 0 < 4294967296
  else if c.kind = 3 ∨ c.kind = 8 then 0 < c.nums.length
  else if c.kind = 7 ∨ c.kind = 9 ∨ c.kind = 11 then c.nums.length = 1
  else if c.kind = 12 then 1 ≤ c.ask.kind ∧ c.ask.kind ≤ 12
  else 1 ≤ c.kind ∧ c.kind ≤ 14
instance (c : Cmd) : Decidable (fitS c) := by unfold fitS; infer_instance
/-- the name of a kind; none: "" -/
def nameIn (l : List (Int × B)) (k : Int) : B := match l.find? (fun p => p.1 == k) with | some p => p.2 | none => []
/-- a question's words behind its name -/
def askW (q : Ques) : List B :=
  if q.kind = 1 ∨ q.kind = 3 ∨ q.kind = 4 then [itoa q.a, itoa q.b]
  else if q.kind = 2 ∨ q.kind = 5 ∨ q.kind = 6 then q.ids.map itoa
  else if q.kind = 7 ∨ q.kind = 8 then [itoa q.a, quote q.path]
  else if q.kind = 9 ∨ q.kind = 10 then [itoa q.a, itoa q.b, itoa q.limit]
  else [itoa q.a]
/-- a command's words behind its name -/
def cmdW (c : Cmd) : List B :=
  if c.kind = 1 ∨ c.kind = 3 ∨ c.kind = 7 ∨ c.kind = 8 then c.nums.map itoa
  else if c.kind = 2 then treeW c.tree
  else if c.kind = 9 then [quote c.text, itoa (c.nums.getD 0 0), quote c.more]
  else if c.kind = 10 then [quote c.text]
  else if c.kind = 11 then [quote c.text, itoa (c.nums.getD 0 0)]
  else if c.kind = 12 then askW c.ask
  else []
def nameC (c : Cmd) : B := if c.kind = 12 then nameIn qnames c.ask.kind else nameIn cnames c.kind
/-- a command's line -/
def lineS (c : Cmd) : B := nameC c ++ tailW (cmdW c)

/-- what the kinds name, the rest zero -/
def normQ (q : Ques) : Ques :=
  if q.kind = 1 ∨ q.kind = 3 ∨ q.kind = 4 then { kind := q.kind, a := q.a, b := q.b }
  else if q.kind = 2 ∨ q.kind = 5 ∨ q.kind = 6 then { kind := q.kind, ids := q.ids }
  else if q.kind = 7 ∨ q.kind = 8 then { kind := q.kind, a := q.a, path := q.path }
  else if q.kind = 9 ∨ q.kind = 10 then { kind := q.kind, a := q.a, b := q.b, limit := q.limit }
  else { kind := q.kind, a := q.a }
def normC (c : Cmd) : Cmd :=
  if c.kind = 1 ∨ c.kind = 3 ∨ c.kind = 7 ∨ c.kind = 8 then { kind := c.kind, nums := c.nums }
  else if c.kind = 2 then { kind := 2, tree := c.tree }
  else if c.kind = 9 then { kind := 9, nums := c.nums, text := c.text, more := c.more }
  else if c.kind = 10 then { kind := 10, text := c.text }
  else if c.kind = 11 then { kind := 11, nums := c.nums, text := c.text }
  else if c.kind = 12 then { kind := 12, ask := normQ c.ask }
  else { kind := c.kind }

/-- the numbers of a command are numbers of the machine -/
structure CmdOk (c : Cmd) : Prop where
  nums : ∀ n ∈ c.nums, I64 n
  tree : ∀ e ∈ c.tree, 0 ≤ e.2 ∧ e.2 < 4294967296
  ids : ∀ n ∈ c.ask.ids, I64 n
  a : I64 c.ask.a
  b : I64 c.ask.b
  limit : I64 c.ask.limit

theorem pBody_ask (q : Ques) (h1 : 1 ≤ q.kind) (h2 : q.kind ≤ 12) (hi : ∀ n ∈ q.ids, I64 n) (ha : I64 q.a) (hb : I64 q.b) (hl : I64 q.limit) : pQues q.kind (tailW (askW q)) = some (normQ q, []) := by
  have N : ∀ (n : Int) (l : List B), I64 n → pNum (tailW (itoa n :: l)) = some (n, tailW l) := fun n l hn => by rw [tailW_cons]; exact pNum_itoa hn (tailW_head _)
  have T : ∀ (x : B) (l : List B), pText (tailW (quote x :: l)) = some (x, tailW l) := fun x l => by rw [tailW_cons]; exact pText_quote x _
  unfold pQues askW normQ
  by_cases k1 : q.kind = 1 ∨ q.kind = 3 ∨ q.kind = 4
  · simp only [if_pos k1, N _ _ ha, N _ _ hb, tailW_nil]
  · by_cases k2 : q.kind = 2 ∨ q.kind = 5 ∨ q.kind = 6
    · simp only [if_neg k1, if_pos k2, pNums_tail _ hi, Option.map_some]
    · by_cases k3 : q.kind = 7 ∨ q.kind = 8
      · simp only [if_neg k1, if_neg k2, if_pos k3, N _ _ ha, T, tailW_nil]
      · by_cases k4 : q.kind = 9 ∨ q.kind = 10
        · simp only [if_neg k1, if_neg k2, if_neg k3, if_pos k4, N _ _ ha, N _ _ hb, N _ _ hl, tailW_nil]
        · have k5 : q.kind = 11 ∨ q.kind = 12 := by omega
          simp only [if_neg k1, if_neg k2, if_neg k3, if_neg k4, if_pos k5, N _ _ ha, Option.map_some, tailW_nil]

theorem names_fin : (∀ p ∈ cnames, kindIn cnames p.2 = p.1 ∧ (∀ c ∈ p.2, c ≠ 32 ∧ c ≠ 10) ∧ p.2 ≠ [] ∧ p.2.head? ≠ some 35 ∧ nameIn cnames p.1 = p.2) ∧
    (∀ p ∈ qnames, kindIn cnames p.2 = 0 ∧ kindIn qnames p.2 = p.1 ∧ (∀ c ∈ p.2, c ≠ 32 ∧ c ≠ 10) ∧ p.2 ≠ [] ∧ p.2.head? ≠ some 35 ∧ nameIn qnames p.1 = p.2) := by decide +kernel
theorem cname_of (k : Int) (h1 : 1 ≤ k) (h2 : k ≤ 14) (h3 : k ≠ 12) : ∃ p ∈ cnames, p.1 = k := by
  have : k = 1 ∨ k = 2 ∨ k = 3 ∨ k = 4 ∨ k = 5 ∨ k = 6 ∨ k = 7 ∨ k = 8 ∨ k = 9 ∨ k = 10 ∨ k = 11 ∨ k = 13 ∨ k = 14 := by omega
  rcases this with rfl | rfl | rfl | rfl | rfl | rfl | rfl | rfl | rfl | rfl | rfl | rfl | rfl <;> simp [cnames]
theorem qname_of (k : Int) (h1 : 1 ≤ k) (h2 : k ≤ 12) : ∃ p ∈ qnames, p.1 = k := by
  have : k = 1 ∨ k = 2 ∨ k = 3 ∨ k = 4 ∨ k = 5 ∨ k = 6 ∨ k = 7 ∨ k = 8 ∨ k = 9 ∨ k = 10 ∨ k = 11 ∨ k = 12 := by omega
  rcases this with rfl | rfl | rfl | rfl | rfl | rfl | rfl | rfl | rfl | rfl | rfl | rfl <;> simp [qnames]

theorem fit_kind {c : Cmd} (h : fitS c) : 1 ≤ c.kind ∧ c.kind ≤ 14 ∧ (c.kind = 12 → 1 ≤ c.ask.kind ∧ c.ask.kind ≤ 12) := by
  unfold fitS at h
  split at h
  · omega
  · split at h
    · omega
    · split at h
      · omega
      · split at h
        · exact ⟨by omega, by omega, fun _ => h⟩
        · exact ⟨by omega, by omega, by omega⟩

theorem name_facts {c : Cmd} (h : fitS c) : (∀ x ∈ nameC c, x ≠ 32 ∧ x ≠ 10) ∧ nameC c ≠ [] ∧ (nameC c).head? ≠ some 35 ∧ kindIn cnames (nameC c) = (if c.kind = 12 then 0 else c.kind) ∧ (c.kind = 12 → kindIn qnames (nameC c) = c.ask.kind) := by
  obtain ⟨h1, h2, h3⟩ := fit_kind h
  unfold nameC
  by_cases hk : c.kind = 12
  · obtain ⟨q1, q2⟩ := h3 hk
    obtain ⟨p, hp, hpk⟩ := qname_of _ q1 q2
    obtain ⟨a1, a2, a3, a4, a5, a6⟩ := names_fin.2 p hp
    rw [if_pos hk, if_pos hk, ← hpk, a6]
    exact ⟨a3, a4, a5, a1, fun _ => a2⟩
  · obtain ⟨p, hp, hpk⟩ := cname_of _ h1 h2 hk
    obtain ⟨a2, a3, a4, a5, a6⟩ := names_fin.1 p hp
    rw [if_neg hk, if_neg hk, ← hpk, a6]
    exact ⟨a3, a4, a5, a2, fun q => absurd q (by rw [hpk]; exact hk)⟩

theorem pBody_line (c : Cmd) (h : fitS c) (ok : CmdOk c) : pBody (if c.kind = 12 then 0 else c.kind) (nameC c) (tailW (cmdW c)) = some (normC c, []) := by
  have N : ∀ (n : Int) (l : List B), I64 n → pNum (tailW (itoa n :: l)) = some (n, tailW l) := fun n l hn => by rw [tailW_cons]; exact pNum_itoa hn (tailW_head _)
  have T : ∀ (x : B) (l : List B), pText (tailW (quote x :: l)) = some (x, tailW l) := fun x l => by rw [tailW_cons]; exact pText_quote x _
  obtain ⟨h1, h2, h3⟩ := fit_kind h
  obtain ⟨-, -, -, -, hq⟩ := name_facts h
  obtain ⟨kind, nums, text, more, tree, ask⟩ := c
  have hn := ok.nums
  have ht := ok.tree
  simp only [] at h1 h2 h3 hq hn ht ⊢
  unfold fitS at h
  simp only [] at h
  have hk : kind = 1 ∨ kind = 2 ∨ kind = 3 ∨ kind = 4 ∨ kind = 5 ∨ kind = 6 ∨ kind = 7 ∨ kind = 8 ∨ kind = 9 ∨ kind = 10 ∨ kind = 11 ∨ kind = 12 ∨ kind = 13 ∨ kind = 14 := by omega
  rcases hk with rfl | rfl | rfl | rfl | rfl | rfl | rfl | rfl | rfl | rfl | rfl | rfl | rfl | rfl
  · simp at h
    have := pMany_tail nums hn
    rw [h.1] at this
    simp [pBody, cmdW, normC, this, h.2]
  · simp [pBody, cmdW, normC, pTree_tail _ ht]
  · simp at h
    cases nums with
    | nil => simp at h
    | cons n l => simp [pBody, cmdW, normC, N n _ (hn n (List.mem_cons_self ..)), pNums_tail l fun x hx => hn x (List.mem_cons_of_mem _ hx)]
  · simp [pBody, cmdW, normC, tailW_nil]
  · simp [pBody, cmdW, normC, tailW_nil]
  · simp [pBody, cmdW, normC, tailW_nil]
  · simp at h
    match nums, h with
    | [n], _ => simp [pBody, cmdW, normC, N n _ (hn n (List.mem_cons_self ..)), tailW_nil]
  · simp at h
    cases nums with
    | nil => simp at h
    | cons n l => simp [pBody, cmdW, normC, N n _ (hn n (List.mem_cons_self ..)), pNums_tail l fun x hx => hn x (List.mem_cons_of_mem _ hx)]
  · simp at h
    match nums, h with
    | [n], _ => simp [pBody, cmdW, normC, N n _ (hn n (List.mem_cons_self ..)), T, tailW_nil]
  · simp [pBody, cmdW, normC, T, tailW_nil]
  · simp at h
    match nums, h with
    | [n], _ => simp [pBody, cmdW, normC, N n _ (hn n (List.mem_cons_self ..)), T, tailW_nil]
  · have hb := pBody_ask ask (h3 rfl).1 (h3 rfl).2 ok.ids ok.a ok.b ok.limit
    simp [pBody, cmdW, normC, hq, hb]
  · simp [pBody, cmdW, normC, tailW_nil]
  · simp [pBody, cmdW, normC, tailW_nil]

theorem pLine_line (c : Cmd) (h : fitS c) (ok : CmdOk c) : pLine (lineS c) = some (normC c) := by
  obtain ⟨a1, -, -, a4, -⟩ := name_facts h
  obtain ⟨e1, e2⟩ := tok_of (nameC c) (tailW (cmdW c)) (fun x hx => (a1 x hx).1) (tailW_head _)
  unfold pLine lineS
  rw [e1, e2, a4, pBody_line c h ok]
  rfl

/-! ### A script's text -/
def textS (l : List Cmd) : B := l.flatMap fun c => lineS c ++ [10]
/-- Print's answer: the text, and the error -/
def printS (eL eS : Nat) (l : List Cmd) : B × Nat :=
  if ∃ c ∈ l, ¬ fitS c then ([], eS) else if 1024 < l.length ∨ 65536 < (textS l).length then ([], eL) else (textS l, 0)

theorem itoa_no10 (n : Int) : ∀ c ∈ itoa n, c ≠ 10 := by
  intro c hc
  unfold itoa at hc
  split at hc
  · simp only [List.mem_cons] at hc
    rcases hc with rfl | hc
    · decide
    · rintro rfl; have := decDigits_dig _ _ hc; revert this; decide
  · rintro rfl; have := decDigits_dig _ _ hc; revert this; decide
theorem quote_no10 (s : B) : ∀ c ∈ quote s, c ≠ 10 := by
  intro c hc
  rintro rfl
  have := quote_fit s _ hc
  revert this; decide
theorem cmdW_no10 (c : Cmd) : ∀ x ∈ cmdW c, ∀ b ∈ x, b ≠ 10 := by
  intro x hx
  have : (∃ n, x = itoa n) ∨ ∃ t, x = quote t := by
    unfold cmdW askW treeW at hx
    repeat' split at hx
    all_goals (simp at hx)
    all_goals (try (obtain ⟨a, -, rfl⟩ := hx; exact .inl ⟨a, rfl⟩))
    all_goals (try (obtain ⟨a, b, -, rfl | rfl⟩ := hx; exact .inr ⟨_, rfl⟩; exact .inl ⟨_, rfl⟩))
    all_goals (try (rcases hx with rfl | rfl | rfl <;> first | exact .inl ⟨_, rfl⟩ | exact .inr ⟨_, rfl⟩))
    all_goals (try (rcases hx with rfl | rfl <;> first | exact .inl ⟨_, rfl⟩ | exact .inr ⟨_, rfl⟩))
    all_goals (try (subst hx; first | exact .inl ⟨_, rfl⟩ | exact .inr ⟨_, rfl⟩))
  rcases this with ⟨n, rfl⟩ | ⟨t, rfl⟩
  · exact itoa_no10 n
  · exact quote_no10 t
theorem line_no10 (c : Cmd) (h : fitS c) : (10 : UInt8) ∉ lineS c := by
  intro q
  unfold lineS tailW at q
  simp only [List.mem_append, List.mem_flatMap, List.mem_cons] at q
  rcases q with q | ⟨x, hx, q⟩
  · exact ((name_facts h).1 _ q).2 rfl
  · rcases q with q | q
    · revert q; decide
    · exact cmdW_no10 c x hx _ q rfl
theorem line_says (c : Cmd) (h : fitS c) : says (lineS c) := by
  obtain ⟨-, a2, a3, -⟩ := name_facts h
  unfold says lineS
  cases hn : nameC c with
  | nil => exact absurd hn a2
  | cons x r => rw [hn] at a3; exact ⟨by simp, by simpa using a3⟩

theorem pLines_text : ∀ (l : List Cmd), (∀ c ∈ l, fitS c ∧ CmdOk c) → pLines (parts (textS l)) = some (l.map normC) ∧ (textS l).count 10 = l.length ∧ (l ≠ [] → (textS l).getLast? = some 10)
  | [], _ => by refine ⟨?_, rfl, fun h => absurd rfl h⟩; rw [show textS [] = [] from rfl, parts_nil]; rfl
  | c :: l, h => by
    obtain ⟨hf, ho⟩ := h c (List.mem_cons_self ..)
    obtain ⟨i1, i2, i3⟩ := pLines_text l fun x hx => h x (List.mem_cons_of_mem _ hx)
    have e : textS (c :: l) = lineS c ++ 10 :: textS l := by simp [textS]
    have hn := line_no10 c hf
    refine ⟨?_, ?_, fun _ => ?_⟩
    · rw [e, parts_app _ _ hn, pLines, if_pos (line_says c hf), pLine_line c hf ho]
      simp [i1]
    · rw [e, List.count_append, List.count_eq_zero.2 hn, List.count_cons_self, i2]; simp
    · rw [e, List.getLast?_append]
      cases l with
      | nil => simp [textS]
      | cons d l => rw [List.getLast?_cons, i3 (by simp)]; rfl

theorem nLines_text (l : List Cmd) (h : ∀ c ∈ l, fitS c ∧ CmdOk c) : nLines (textS l) = l.length := by
  obtain ⟨-, h2, h3⟩ := pLines_text l h
  unfold nLines
  rw [if_pos, h2]
  cases l with
  | nil => exact .inl rfl
  | cons c l => exact .inr (h3 (by simp))

/-- what is told is read as it was, what the kinds don't name zero -/
theorem parse_print {l : List Cmd} (h : ∀ c ∈ l, CmdOk c) {eL eS eL' eS' : Nat} {t : B} (hp : printS eL eS l = (t, 0)) (h1 : eL ≠ 0) (h2 : eS ≠ 0) : parseS eL' eS' t = (l.map normC, 0) := by
  unfold printS at hp
  split at hp
  · exact absurd (Prod.mk.inj hp).2 h2
  · rename_i hf
    split at hp
    · exact absurd (Prod.mk.inj hp).2 h1
    · rename_i hlen
      have ht := (Prod.mk.inj hp).1
      subst ht
      have hall : ∀ c ∈ l, fitS c ∧ CmdOk c := fun c hc => ⟨Classical.byContradiction fun q => hf ⟨c, hc, q⟩, h c hc⟩
      obtain ⟨p1, -, -⟩ := pLines_text l hall
      unfold parseS
      rw [if_neg (by unfold tooLong; rw [nLines_text l hall]; exact fun q => hlen q.symm), p1]

theorem normQ_idem (q : Ques) : normQ (normQ q) = normQ q ∧ (normQ q).kind = q.kind ∧ askW (normQ q) = askW q := by
  by_cases k1 : q.kind = 1 ∨ q.kind = 3 ∨ q.kind = 4
  · simp [normQ, askW, k1]
  · by_cases k2 : q.kind = 2 ∨ q.kind = 5 ∨ q.kind = 6
    · simp [normQ, askW, k1, k2]
    · by_cases k3 : q.kind = 7 ∨ q.kind = 8
      · simp [normQ, askW, k1, k2, k3]
      · by_cases k4 : q.kind = 9 ∨ q.kind = 10
        · simp [normQ, askW, k1, k2, k3, k4]
        · simp [normQ, askW, k1, k2, k3, k4]
theorem norm_facts (c : Cmd) : (normC c).kind = c.kind ∧ normC (normC c) = normC c ∧ lineS (normC c) = lineS c ∧ (fitS (normC c) ↔ fitS c) := by
  obtain ⟨q1, q2, q3⟩ := normQ_idem c.ask
  by_cases k1 : c.kind = 1 ∨ c.kind = 3 ∨ c.kind = 7 ∨ c.kind = 8
  · have : c.kind ≠ 12 := by omega
    simp [normC, k1, lineS, cmdW, nameC, fitS, this]
  · by_cases k2 : c.kind = 2
    · simp [normC, k2, lineS, cmdW, nameC, fitS]
    · by_cases k9 : c.kind = 9
      · simp [normC, k9, lineS, cmdW, nameC, fitS]
      · by_cases k10 : c.kind = 10
        · simp [normC, k10, lineS, cmdW, nameC, fitS]
        · by_cases k11 : c.kind = 11
          · simp [normC, k11, lineS, cmdW, nameC, fitS]
          · by_cases k12 : c.kind = 12
            · simp [normC, k12, lineS, cmdW, nameC, fitS, q1, q2, q3]
            · have k1' : ¬ (c.kind = 1 ∨ c.kind = 3 ∨ c.kind = 7 ∨ c.kind = 8) := k1
              simp only [not_or] at k1
              simp [normC, k1, k2, k9, k10, k11, k12, lineS, cmdW, nameC, fitS]
end Go.Mine.Sc
