/- A number at the front of a text, read by the document, is a number's own form: plain. -/
import Derived.Test.YteblabpplaaddaaGreatDoorSp
set_option linter.unusedVariables false
set_option linter.unusedSimpArgs false
namespace Go.Mine.Sc
open Go.Lib

abbrev I64 (n : Int) : Prop := -9223372036854775808 ≤ n ∧ n ≤ 9223372036854775807

def isDig (c : UInt8) : Prop := 48 ≤ c.toNat ∧ c.toNat ≤ 57
instance (c : UInt8) : Decidable (isDig c) := inferInstanceAs (Decidable (_ ∧ _))

/-- what digits spell, on top of v -/
def dval : Nat → B → Nat
  | v, [] => v
  | v, c :: r => dval (10 * v + (c.toNat - 48)) r

theorem dval_append (v : Nat) (l r : B) : dval v (l ++ r) = dval (dval v l) r := by
  induction l generalizing v with
  | nil => rfl
  | cons c l ih => exact ih _
theorem dval_le (v : Nat) (l : B) : v ≤ dval v l := by
  induction l generalizing v with
  | nil => exact Nat.le_refl v
  | cons c l ih =>
    have h1 : v ≤ 10 * v + (c.toNat - 48) := by omega
    exact Nat.le_trans h1 (ih _)
theorem dval_pos {v : Nat} (l : B) (h : 1 ≤ v) : 1 ≤ dval v l := Nat.le_trans h (dval_le v l)

theorem dig_of (i : Nat) (h : i < 10) : (UInt8.ofNat (48 + i)).toNat = 48 + i := by rw [UInt8.toNat_ofNat']; exact Nat.mod_eq_of_lt (by omega)

theorem decDigits_dig : ∀ u : Nat, ∀ c ∈ decDigits u, isDig c := by
  intro u
  induction u using Nat.strongRecOn with
  | _ u ih =>
    intro c hc
    by_cases h : u < 10
    · rw [decDigits, dif_pos h, List.mem_singleton] at hc
      subst hc
      unfold isDig; rw [dig_of u h]; omega
    · rw [decDigits, dif_neg h, List.mem_append, List.mem_singleton] at hc
      rcases hc with hc | rfl
      · exact ih (u / 10) (by omega) c hc
      · unfold isDig; rw [dig_of (u % 10) (by omega)]; omega

theorem dval_decDigits : ∀ u : Nat, dval 0 (decDigits u) = u := by
  intro u
  induction u using Nat.strongRecOn with
  | _ u ih =>
    by_cases h : u < 10
    · have e : decDigits u = [UInt8.ofNat (48 + u)] := decDigits_one h
      rewrite [e]
      have e2 := dig_of u h
      have e3 : dval 0 [UInt8.ofNat (48 + u)] = 10 * 0 + ((UInt8.ofNat (48 + u)).toNat - 48) := rfl
      rewrite [e3, e2]
      omega
    · have e : decDigits u = decDigits (u / 10) ++ [UInt8.ofNat (48 + u % 10)] := by
        rewrite [decDigits, dif_neg h]
        exact Eq.refl _
      have e3 : ∀ v, dval v [UInt8.ofNat (48 + u % 10)] = 10 * v + ((UInt8.ofNat (48 + u % 10)).toNat - 48) := fun v => rfl
      rewrite [e, dval_append, ih (u / 10) (by omega), e3, dig_of (u % 10) (by omega)]
      omega

theorem decDigits_ne' (u : Nat) : decDigits u ≠ [] := by
  intro h
  have h2 := nDigits_pos u
  rw [← decDigits_length u, h] at h2
  simp at h2

/-- the first digit is a nought for nought alone -/
theorem decDigits_head : ∀ u : Nat, 1 ≤ u → ∃ c r, decDigits u = c :: r ∧ 49 ≤ c.toNat := by
  intro u
  induction u using Nat.strongRecOn with
  | _ u ih =>
    intro h1
    by_cases h : u < 10
    · exact ⟨_, _, by rw [decDigits, dif_pos h], by rw [dig_of u h]; omega⟩
    · obtain ⟨c, r, h2, h3⟩ := ih (u / 10) (by omega) (by omega)
      exact ⟨c, r ++ [UInt8.ofNat (48 + u % 10)], by rw [decDigits, dif_neg h, h2]; rfl, h3⟩

theorem uint8_of (c : UInt8) (i : Nat) (h : isDig c) (hi : i = c.toNat - 48) : UInt8.ofNat (48 + i) = c := by
  have h' : 48 ≤ c.toNat ∧ c.toNat ≤ 57 := h
  apply UInt8.toNat_inj.1
  rw [dig_of i (by omega)]; omega

/-- digits without a needless nought are their value's -/
theorem decDigits_dval : ∀ (l : B) (n : Nat), l.length ≤ n → (∀ c ∈ l, isDig c) → l ≠ [] → (∀ c r, l = c :: r → c = 48 → r = []) → decDigits (dval 0 l) = l := by
  intro l n
  induction n generalizing l with
  | zero => intro hn _ hne _; exact absurd (List.eq_nil_of_length_eq_zero (by omega)) hne
  | succ n ih =>
    intro hn hd hne hz
    rcases List.eq_nil_or_concat l with rfl | ⟨m, c, rfl⟩
    · exact absurd rfl hne
    · rw [List.concat_eq_append] at *
      have hc : isDig c := hd c (by simp)
      have hc' : 48 ≤ c.toNat ∧ c.toNat ≤ 57 := hc
      cases m with
      | nil =>
        have e3 : dval 0 ([] ++ [c]) = 10 * 0 + (c.toNat - 48) := rfl
        rewrite [e3, decDigits_one (by omega), uint8_of c _ hc (by omega)]
        exact Eq.refl _
      | cons a m =>
        have ha : isDig a := hd a (by simp)
        have ha' : 48 ≤ a.toNat ∧ a.toNat ≤ 57 := ha
        have ha48 : a ≠ 48 := fun q => by
          have := hz a (m ++ [c]) rfl q
          simp at this
        have ha49 : 49 ≤ a.toNat := by
          have : a.toNat ≠ 48 := fun q => ha48 (UInt8.toNat_inj.1 q)
          omega
        have hih := ih (a :: m) (by simp at hn ⊢; omega) (fun x hx => hd x (List.mem_append_left _ hx)) (by simp) (fun x r hx hx48 => by
          injection hx with h1 h2
          exact absurd (h1.trans hx48) ha48)
        have hpos : 1 ≤ dval 0 (a :: m) := by
          have h1 : 1 ≤ 10 * 0 + (a.toNat - 48) := by omega
          exact dval_pos m h1
        have e3 : ∀ v, dval v [c] = 10 * v + (c.toNat - 48) := fun v => rfl
        rewrite [dval_append, e3]
        generalize dval 0 (a :: m) = v at *
        rewrite [decDigits, dif_neg (by omega), show (10 * v + (c.toNat - 48)) / 10 = v by omega, hih, uint8_of c _ hc (by omega)]
        exact Eq.refl _

theorem itoa_chars (n : Int) : ∀ c ∈ itoa n, c ≠ 32 := by
  intro c hc
  unfold itoa at hc
  have key : ∀ u, c ∈ decDigits u → c ≠ 32 := fun u h => by
    have := decDigits_dig u c h
    intro q; subst q
    revert this; decide
  split at hc
  · rcases List.mem_cons.1 hc with rfl | hc
    · decide
    · exact key _ hc
  · exact key _ hc

/-! ### Atoi of a number's own form -/
theorem parseUint10_digits (l : B) (acc : Nat) (hd : ∀ c ∈ l, isDig c) (h : dval acc l < 18446744073709551616) : parseUint10 acc l = .ok (dval acc l) := by
  induction l generalizing acc with
  | nil => exact Eq.refl _
  | cons c r ih =>
    have hc : 48 ≤ c.toNat ∧ c.toNat ≤ 57 := hd c (by simp)
    have e : dval acc (c :: r) = dval (10 * acc + (c.toNat - 48)) r := Eq.refl _
    rewrite [e] at h ⊢
    have hle := dval_le (10 * acc + (c.toNat - 48)) r
    have hih := ih (10 * acc + (c.toNat - 48)) (fun x hx => hd x (List.mem_cons_of_mem _ hx)) h
    rewrite [parseUint10, if_pos hc, if_neg (by omega), if_neg (by omega), show acc * 10 + (c.toNat - 48) = 10 * acc + (c.toNat - 48) by omega]
    exact hih

theorem parseMag_decDigits (u : Nat) (h : u < 18446744073709551616) : parseMag (decDigits u) = .ok u := by
  unfold parseMag
  rw [if_neg (decDigits_ne' u)]
  have := parseUint10_digits (decDigits u) 0 (decDigits_dig u) (by rw [dval_decDigits]; exact h)
  rw [dval_decDigits] at this
  exact this

theorem atoiAll_itoa (n : Int) (h : I64 n) : atoiAll (itoa n) = .ok n := by
  unfold itoa
  split
  · rename_i hn
    have hm := parseMag_decDigits n.natAbs (by omega)
    unfold atoiAll
    simp only []
    rw [if_pos (by decide), hm]
    simp only []
    rw [if_neg (by simp), if_neg (by simp; omega)]
    simp
    omega
  · rename_i hn
    have hm := parseMag_decDigits n.toNat (by omega)
    have hne := decDigits_ne' n.toNat
    have hd := decDigits_dig n.toNat
    generalize hl : decDigits n.toNat = l at *
    cases l with
    | nil => exact absurd rfl hne
    | cons c r =>
      have hc : 48 ≤ c.toNat ∧ c.toNat ≤ 57 := hd c (by simp)
      unfold atoiAll
      simp only []
      rw [if_neg (by omega), hm]
      simp only []
      rw [if_neg (by omega), if_neg (by omega), if_neg (by omega)]
      congr 1
      omega

theorem atoiAll_i64 {d : B} {n : Int} (h : atoiAll d = .ok n) : I64 n := atoiAll_bounds h

theorem canon_iff (d : B) (n : Int) : canon d = some n ↔ d = itoa n ∧ I64 n := by
  unfold canon
  constructor
  · intro h
    split at h
    · rename_i m hm
      split at h
      · rename_i hi
        simp only [Option.some.injEq] at h
        subst h
        exact ⟨hi.symm, atoiAll_i64 hm⟩
      · simp at h
    · simp at h
  · rintro ⟨rfl, h⟩
    rw [atoiAll_itoa n h]
    simp

/-! ### The document's number -/
/-- digits at the front, below nought -/
def rdig (n : Int) : B → Option (Int × B)
  | [] => some (n, [])
  | c :: r =>
    if isDig c then
      if n < Int.tdiv (-9223372036854775808 + ((c.toNat - 48 : Nat) : Int)) 10 then none else rdig (10 * n - ((c.toNat - 48 : Nat) : Int)) r
    else some (n, c :: r)

def noDig : B → Prop
  | [] => True
  | c :: _ => ¬ isDig c

/-- digits at the front, as the document takes them -/
def rMag (t : B) : Option (Int × B) :=
  match rdig 0 t with
  | none => none
  | some (n, r) => if r.length = t.length ∨ (t.head? = some 48 ∧ r.length + 1 < t.length) then none else some (n, r)
/-- a number at the front -/
def rNum (t : B) : Option (Int × B) :=
  if t.head? = some 45 then
    match rMag t.tail with
    | none => none
    | some (n, r) => if n = 0 then none else some (n, r)
  else
    match rMag t with
    | none => none
    | some (n, r) => if n = -9223372036854775808 then none else some (-n, r)

theorem tdiv_low (d : Nat) (n : Int) (hd : d ≤ 9) : n < Int.tdiv (-9223372036854775808 + (d : Int)) 10 ↔ 10 * n - (d : Int) < -9223372036854775808 := by
  have : d = 0 ∨ d = 1 ∨ d = 2 ∨ d = 3 ∨ d = 4 ∨ d = 5 ∨ d = 6 ∨ d = 7 ∨ d = 8 ∨ d = 9 := by omega
  have e1 : ∀ m : Int, -9223372036854775808 ≤ m → m ≤ -9223372036854775800 → Int.tdiv m 10 = -922337203685477580 := fun m h1 h2 => by
    have : m = -9223372036854775808 ∨ m = -9223372036854775807 ∨ m = -9223372036854775806 ∨ m = -9223372036854775805 ∨ m = -9223372036854775804 ∨ m = -9223372036854775803 ∨ m = -9223372036854775802 ∨ m = -9223372036854775801 ∨ m = -9223372036854775800 := by omega
    rcases this with h | h | h | h | h | h | h | h | h <;> (subst h; decide)
  by_cases h9 : d = 9
  · subst h9
    rw [show Int.tdiv (-9223372036854775808 + ((9 : Nat) : Int)) 10 = -922337203685477579 by decide]
    omega
  · rw [e1 _ (by omega) (by omega)]
    omega

theorem rdig_go (l r : B) (v : Nat) (hd : ∀ c ∈ l, isDig c) (hr : noDig r) (h : dval v l ≤ 9223372036854775808) : rdig (-(v : Int)) (l ++ r) = some (-(dval v l : Int), r) := by
  induction l generalizing v with
  | nil =>
    cases r with
    | nil => exact Eq.refl _
    | cons c r =>
      have hr' : ¬ isDig c := hr
      rewrite [List.nil_append, rdig, if_neg hr']
      exact Eq.refl _
  | cons c l ih =>
    have hc : isDig c := hd c (by simp)
    have hc' : 48 ≤ c.toNat ∧ c.toNat ≤ 57 := hc
    have e : dval v (c :: l) = dval (10 * v + (c.toNat - 48)) l := Eq.refl _
    rewrite [e] at h ⊢
    have hle := dval_le (10 * v + (c.toNat - 48)) l
    have hih := ih (10 * v + (c.toNat - 48)) (fun x hx => hd x (List.mem_cons_of_mem _ hx)) h
    have hn : ¬ (-(v : Int) < Int.tdiv (-9223372036854775808 + ((c.toNat - 48 : Nat) : Int)) 10) := by
      rewrite [tdiv_low _ _ (by omega)]
      omega
    rewrite [List.cons_append, rdig, if_pos hc, if_neg hn,
      show 10 * (-(v : Int)) - ((c.toNat - 48 : Nat) : Int) = -((10 * v + (c.toNat - 48) : Nat) : Int) by omega]
    exact hih

theorem rdig_some (t : B) (v : Nat) (n : Int) (r : B) (hv : (v : Int) ≤ 9223372036854775808) (h : rdig (-(v : Int)) t = some (n, r)) :
    ∃ l, t = l ++ r ∧ (∀ c ∈ l, isDig c) ∧ n = -(dval v l : Int) ∧ dval v l ≤ 9223372036854775808 ∧ noDig r := by
  induction t generalizing v with
  | nil =>
    simp only [rdig, Option.some.injEq, Prod.mk.injEq] at h
    obtain ⟨rfl, rfl⟩ := h
    exact ⟨[], rfl, by simp, rfl, by have e : dval v [] = v := rfl
                                     rewrite [e]; omega, trivial⟩
  | cons c t ih =>
    rewrite [rdig] at h
    by_cases hc : isDig c
    · rewrite [if_pos hc] at h
      have hc' : 48 ≤ c.toNat ∧ c.toNat ≤ 57 := hc
      have htd := tdiv_low (c.toNat - 48) (-(v : Int)) (by omega)
      by_cases hlt : -(v : Int) < Int.tdiv (-9223372036854775808 + ((c.toNat - 48 : Nat) : Int)) 10
      · rewrite [if_pos hlt] at h; simp at h
      · rewrite [if_neg hlt] at h
        rewrite [htd] at hlt
        rewrite [show 10 * (-(v : Int)) - ((c.toNat - 48 : Nat) : Int) = -((10 * v + (c.toNat - 48) : Nat) : Int) by omega] at h
        obtain ⟨l, rfl, h2, h3, h4, h5⟩ := ih _ (by omega) h
        refine ⟨c :: l, rfl, ?_, h3, h4, h5⟩
        intro x hx
        rcases List.mem_cons.1 hx with rfl | hx
        · exact hc
        · exact h2 x hx
    · rewrite [if_neg hc] at h
      simp only [Option.some.injEq, Prod.mk.injEq] at h
      obtain ⟨rfl, rfl⟩ := h
      exact ⟨[], rfl, by simp, rfl, by have e : dval v [] = v := rfl
                                       rewrite [e]; omega, hc⟩

theorem dig_ne45 {c : UInt8} (h : isDig c) : c ≠ 45 := by rintro rfl; revert h; decide

theorem rMag_decDigits (u : Nat) (r : B) (hu : u ≤ 9223372036854775808) (hr : noDig r) : rMag (decDigits u ++ r) = some (-(u : Int), r) := by
  have hgo := rdig_go (decDigits u) r 0 (decDigits_dig _) hr (by rw [dval_decDigits]; omega)
  rw [dval_decDigits] at hgo
  have hne := decDigits_ne' u
  have hz : ∀ c l, decDigits u = c :: l → c = 48 → l = [] := by
    intro c l hl h48
    by_cases h0 : u = 0
    · rw [h0, decDigits, dif_pos (by omega)] at hl
      injection hl with h1 h2
      exact h2.symm
    · obtain ⟨c', l', hl', h49⟩ := decDigits_head u (by omega)
      rw [hl] at hl'
      injection hl' with h1 h2
      subst h1
      rw [h48] at h49
      exact absurd h49 (by decide)
  generalize decDigits u = ds at *
  unfold rMag
  have hgo2 : rdig 0 (ds ++ r) = some (-(u : Int), r) := hgo
  rw [hgo2]
  simp only []
  rw [if_neg]
  rintro (h | ⟨h, h2⟩)
  · rw [List.length_append] at h
    exact hne (List.eq_nil_of_length_eq_zero (by omega))
  · cases ds with
    | nil => exact hne rfl
    | cons c l =>
      simp only [List.cons_append, List.head?_cons, Option.some.injEq] at h
      have := hz c l rfl h
      subst this
      simp at h2

theorem rMag_some {t : B} {n : Int} {r : B} (h : rMag t = some (n, r)) : ∃ u : Nat, n = -(u : Int) ∧ u ≤ 9223372036854775808 ∧ t = decDigits u ++ r ∧ noDig r := by
  unfold rMag at h
  split at h
  · simp at h
  · rename_i m q hq
    split at h
    · simp at h
    · rename_i hcond
      simp only [Option.some.injEq, Prod.mk.injEq] at h
      obtain ⟨rfl, rfl⟩ := h
      obtain ⟨l, rfl, h2, h3, h4, h5⟩ := rdig_some t 0 m q (by omega) hq
      simp only [not_or, List.length_append] at hcond
      obtain ⟨c1, c2⟩ := hcond
      have hl : l ≠ [] := by rintro rfl; simp at c1
      have hz : ∀ c r, l = c :: r → c = 48 → r = [] := by
        rintro c r rfl rfl
        simp only [List.cons_append, List.head?_cons, List.length_cons, true_and] at c2
        exact List.eq_nil_of_length_eq_zero (by omega)
      exact ⟨dval 0 l, h3, h4, by rw [decDigits_dval l l.length (Nat.le_refl _) h2 hl hz], h5⟩

theorem rNum_itoa (n : Int) (r : B) (hn : I64 n) (hr : noDig r) : rNum (itoa n ++ r) = some (n, r) := by
  unfold itoa
  split
  · rename_i hneg
    have hm := rMag_decDigits n.natAbs r (by omega) hr
    unfold rNum
    rw [if_pos (by rfl), List.cons_append, List.tail_cons, hm]
    simp only []
    rw [if_neg (by omega), show -((n.natAbs : Nat) : Int) = n by omega]
  · rename_i hneg
    have hm := rMag_decDigits n.toNat r (by omega) hr
    have h45 : (decDigits n.toNat ++ r).head? ≠ some 45 := by
      have hne := decDigits_ne' n.toNat
      have hd := decDigits_dig n.toNat
      cases hds : decDigits n.toNat with
      | nil => exact absurd hds hne
      | cons c l =>
        rw [hds] at hd
        have := dig_ne45 (hd c (by simp))
        simpa using this
    unfold rNum
    rw [if_neg h45, hm]
    simp only []
    rw [if_neg (by omega), show -(-((n.toNat : Nat) : Int)) = n by omega]

theorem rNum_some {t : B} {n : Int} {r : B} (h : rNum t = some (n, r)) : t = itoa n ++ r ∧ I64 n ∧ noDig r := by
  unfold rNum at h
  split at h
  · rename_i hb
    cases t with
    | nil => simp at hb
    | cons c t =>
      simp only [List.head?_cons, Option.some.injEq] at hb
      subst hb
      rw [List.tail_cons] at h
      split at h
      · simp at h
      · rename_i m q hq
        split at h
        · simp at h
        · rename_i h0
          simp only [Option.some.injEq, Prod.mk.injEq] at h
          obtain ⟨rfl, rfl⟩ := h
          obtain ⟨u, rfl, h2, rfl, h4⟩ := rMag_some hq
          refine ⟨?_, ⟨by omega, by omega⟩, h4⟩
          unfold itoa
          rw [if_pos (by omega), show (-(u : Int)).natAbs = u by omega]
          rfl
  · split at h
    · simp at h
    · rename_i m q hq
      split at h
      · simp at h
      · rename_i h0
        simp only [Option.some.injEq, Prod.mk.injEq] at h
        obtain ⟨rfl, rfl⟩ := h
        obtain ⟨u, rfl, h2, rfl, h4⟩ := rMag_some hq
        refine ⟨?_, ⟨by omega, by omega⟩, h4⟩
        unfold itoa
        rw [if_neg (by omega), show (-(-(u : Int))).toNat = u by omega]

/-! ### Both ways to read a number -/
theorem tok_of (l r : B) (hl : ∀ c ∈ l, c ≠ 32) (hr : r = [] ∨ r.head? = some 32) : tok (l ++ r) = l ∧ aft (l ++ r) = r := by
  have h1 : (l ++ r).takeWhile (fun c => c != 32) = l := by
    induction l with
    | nil =>
      rcases hr with rfl | hr
      · rfl
      · cases r with
        | nil => rfl
        | cons c r => simp at hr; subst hr; rfl
    | cons c l ih =>
      have hc : (c != 32) = true := by simp; exact hl c (by simp)
      simp only [List.cons_append, List.takeWhile_cons, hc, if_true]
      rw [ih fun x hx => hl x (List.mem_cons_of_mem _ hx)]
  refine ⟨h1, ?_⟩
  have := tok_aft (l ++ r)
  unfold tok at this
  rw [h1] at this
  exact List.append_cancel_left this

theorem aft_head (s : B) : aft s = [] ∨ (aft s).head? = some 32 := by
  induction s with
  | nil => exact .inl rfl
  | cons c s ih =>
    unfold aft at ih ⊢
    rw [List.dropWhile_cons]
    by_cases hc : c = 32
    · subst hc; exact .inr rfl
    · rw [if_pos (by simp [hc])]; exact ih

theorem noDig_of {r : B} (h : r = [] ∨ r.head? = some 32) : noDig r := by
  rcases h with rfl | h
  · trivial
  · cases r with
    | nil => trivial
    | cons c r => simp at h; subst h; show ¬ isDig 32; decide

theorem pNum_rNum {t : B} {n : Int} {r : B} (h : pNum (32 :: t) = some (n, r)) : rNum t = some (n, r) ∧ I64 n := by
  simp only [pNum, if_true] at h
  obtain ⟨m, h1, h2⟩ := Option.map_eq_some_iff.1 h
  injection h2 with h2 h3
  subst h2; subst h3
  obtain ⟨h4, h5⟩ := (canon_iff _ _).1 h1
  have := rNum_itoa m (aft t) h5 (noDig_of (aft_head t))
  rw [← h4, tok_aft] at this
  exact ⟨this, h5⟩

theorem rNum_pNum {t : B} {n : Int} {r : B} (h : rNum t = some (n, r)) (hr : r = [] ∨ r.head? = some 32) : pNum (32 :: t) = some (n, r) := by
  obtain ⟨rfl, h2, h3⟩ := rNum_some h
  obtain ⟨h4, h5⟩ := tok_of (itoa n) r (itoa_chars n) hr
  simp only [pNum, if_true]
  rw [h4, h5, (canon_iff _ _).2 ⟨rfl, h2⟩]
  rfl
end Go.Mine.Sc
