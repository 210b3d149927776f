/- The document's sorting of chunks. -/
import Derived.Test.YtfeljngmidhajaaSame
namespace Go.Proofs.Ytfeljngmidhajaa
open Go.RowKit Go.Mine

/-- where a chunk is put in -/
def insAt (c : Ch) : List Ch → Nat
  | [] => 0
  | d :: l => if d.1 < c.1 then insAt c l + 1 else 0
theorem insAt_le (c : Ch) (l : List Ch) : insAt c l ≤ l.length := by
  induction l with
  | nil => simp [insAt]
  | cons d l ih => unfold insAt; split <;> simp; omega
theorem insCh_at (c : Ch) (l : List Ch) : insCh c l = l.take (insAt c l) ++ c :: l.drop (insAt c l) := by
  induction l with
  | nil => rfl
  | cons d l ih =>
    unfold insCh insAt
    split
    · simp [ih]
    · simp
theorem insAt_lt (c : Ch) : ∀ (l : List Ch) (n : Nat) (d : Ch), n < insAt c l → l[n]? = some d → d.1 < c.1
  | [], n, d, h, hd => by simp [insAt] at h
  | e :: l, 0, d, h, hd => by
    unfold insAt at h
    split at h
    · simp at hd; subst hd; assumption
    · omega
  | e :: l, n + 1, d, h, hd => by
    unfold insAt at h
    split at h
    · exact insAt_lt c l n d (by omega) (by simpa using hd)
    · omega
theorem insAt_ge (c : Ch) : ∀ (l : List Ch) (d : Ch), l[insAt c l]? = some d → ¬ d.1 < c.1
  | [], d, hd => by simp at hd
  | e :: l, d, hd => by
    unfold insAt at hd
    split at hd
    · exact insAt_ge c l d (by simpa using hd)
    · simp at hd; subst hd; assumption

theorem ccells_append (a b : List Ch) : ccells (a ++ b) = ccells a ++ ccells b := by
  induction a with
  | nil => rfl
  | cons c a ih => simp [ccells, ih]
theorem ccells_take (l : List Ch) (n : Nat) : (ccells l).take (n * 2) = ccells (l.take n) := by
  induction l generalizing n with
  | nil => simp [ccells]
  | cons c l ih =>
    cases n with
    | zero => simp [ccells]
    | succ n =>
      have e : (n + 1) * 2 = n * 2 + 1 + 1 := by omega
      rw [e]
      simp [ccells, ih]
theorem ccells_drop (l : List Ch) (n : Nat) : (ccells l).drop (n * 2) = ccells (l.drop n) := by
  induction l generalizing n with
  | nil => simp [ccells]
  | cons c l ih =>
    cases n with
    | zero => simp [ccells]
    | succ n =>
      have e : (n + 1) * 2 = n * 2 + 1 + 1 := by omega
      rw [e]
      simp [ccells, ih]

theorem sortCh_take (l : List Ch) (j : Nat) (c : Ch) (h : l[j]? = some c) : sortCh (l.take (j + 1)) = insCh c (sortCh (l.take j)) := by
  unfold sortCh
  rw [List.take_add_one, h, List.foldl_append]
  rfl
theorem sortCh_length (l : List Ch) : (sortCh l).length = l.length := (sortCh_perm l).length_eq
end Go.Proofs.Ytfeljngmidhajaa
