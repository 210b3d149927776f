/- The document's search for an ID; the comparison of two IDs. -/
import Derived.Test.YtfeljngmidhajaaFind
namespace Go.Proofs.Ytfeljngmidhajaa
open Go.RowKit Go.Mine

def RFindRel (w : World) (l : List Ch) (id : Nat) (g : Nat) (i : Value) (wr : World) : Prop :=
  ∃ j : Nat, j + g = l.length ∧ i = .int .i64 j ∧ (∀ t d, t < j → l[t]? = some d → d.1 ≠ id) ∧ w = wr

set_option maxRecDepth 100000 in
set_option maxHeartbeats 1000000 in
theorem rfind_any (a : Option Addr) (cap : Nat) (l : List Ch) (id : Nat) (w : World) (h : ChIs w a cap l) :
    Calls Try.prog 21 #[.slice a l.length cap, .int .u32 id] w fun e w' => e = .returned (foundV (findCh l id)) ∧ w = w' := by
  have H : Hid (ChIs w a cap l) := h
  obtain ⟨L, hL⟩ : ∃ L, L = l.length := ⟨_, rfl⟩
  have HL : Hid (L = l.length) := hL
  rw [← hL]
  have hcap : Hid (L ≤ 9223372036854775807) := (by rw [hL]; have := h.1; have := h.2.1; simp only [maxLen] at this; omega : L ≤ 9223372036854775807)
  clear h hL
  go_enter Try.func21, Try.ntmps21
  go_wp2
  have HS : Hid (RFindRel w l id L (.int .i64 0) w) := ⟨0, by rw [HL.out, Nat.zero_add], rfl, fun t d ht => by omega, rfl⟩
  go_loopg [6] L (fun g i wr => RFindRel w l id g i wr)
  case atStart => exact HS.out
  case round =>
    obtain ⟨j, hjg, rfl, hno, rfl⟩ := hrel
    have N : Hid (∀ t d, t < j → l[t]? = some d → d.1 ≠ id) := hno
    have G : Hid (j + gk = l.length) := hjg
    clear hno hjg HS
    by_cases hlt : j < L
    · obtain ⟨c, hc⟩ : ∃ c, l[j]? = some c := ⟨_, List.getElem?_eq_getElem (by rw [← HL.out]; exact hlt)⟩
      obtain ⟨b, off, rfl, hbw, hel⟩ := H.out.2.2.2 (by rw [← HL.out]; omega)
      obtain ⟨c0, c1⟩ := hel j c hc
      have hw : wrap64 ((j : Int) + 1) = ((j + 1 : Nat) : Int) := by have := hcap.out; simp [wrap64]; omega
      have HW : Hid (wrap64 ((j : Int) + 1) = ((j + 1 : Nat) : Int)) := hw
      have C : Hid (l[j]? = some c) := hc
      clear hc hel hw
      by_cases hid : c.1 = id
      · subst hid
        go_wp2
        go_ret2
        refine ⟨?_, rfl⟩
        rw [findCh_at j c C.out N.out rfl]
        rfl
      · have hne : ((c.1 : Int) = (id : Int)) = False := by apply propext; exact ⟨fun q => hid (by omega), fun q => q.elim⟩
        go_wp2
        go_roundg (gk - 1)
        case measure => have := G.out; have := HL.out; omega
        case rel =>
          refine ⟨j + 1, by have := G.out; have := HL.out; omega, by rw [HW.out], fun t d ht hd => ?_, rfl⟩
          rcases Nat.lt_or_eq_of_le (Nat.le_of_lt_succ ht) with q | q
          · exact N.out t d q hd
          · rw [q, C.out] at hd; obtain rfl := Option.some.inj hd; exact hid
    · go_wp2
      go_ret2
      refine ⟨?_, rfl⟩
      rw [findCh_none fun c hc => ?_]
      · rfl
      · obtain ⟨t, ht⟩ := List.getElem?_of_mem hc
        have := (List.getElem?_eq_some_iff.1 ht).1
        exact N.out t c (by have := HL.out; omega) ht

/-- cmp.Compare on uint32 -/
def cmpV (a b : Nat) : Int := if a < b then -1 else if b < a then 1 else 0

set_option maxRecDepth 100000 in
theorem nan_any (a : Nat) (w : World) : Calls Try.prog 75 #[.int .u32 a] w fun e w' => e = .returned (.bool false) ∧ w = w' := by
  go_enter Try.func75, Try.ntmps75
  go_wp2
  go_ret
  exact ⟨rfl, rfl⟩

set_option maxRecDepth 100000 in
set_option maxHeartbeats 1000000 in
theorem compare_any (a b : Nat) (w : World) : Calls Try.prog 42 #[.int .u32 a, .int .u32 b] w fun e w' => e = .returned (.int .i64 (cmpV a b)) ∧ w = w' := by
  have hn := fun c => nan_any c w
  rcases Nat.lt_trichotomy a b with h | h | h
  · have e1 : cmpV a b = -1 := by simp [cmpV, h]
    rw [e1]
    clear e1
    go_enter Try.func42, Try.ntmps42
    go_wp2_with (go_at_call 75; (with_reducible refine (hn _).mono ?_); rintro e w' ⟨rfl, rfl⟩)
    go_ret
    exact ⟨rfl, rfl⟩
  · subst h
    have e1 : cmpV a a = 0 := by simp [cmpV]
    rw [e1]
    clear e1
    go_enter Try.func42, Try.ntmps42
    go_wp2_with (go_at_call 75; (with_reducible refine (hn _).mono ?_); rintro e w' ⟨rfl, rfl⟩)
    go_ret
    exact ⟨rfl, rfl⟩
  · have e1 : cmpV a b = 1 := by simp [cmpV, h]; omega
    have h2 : ¬ a < b := by omega
    rw [e1]
    clear e1
    go_enter Try.func42, Try.ntmps42
    go_wp2_with (go_at_call 75; (with_reducible refine (hn _).mono ?_); rintro e w' ⟨rfl, rfl⟩)
    go_ret
    exact ⟨rfl, rfl⟩
end Go.Proofs.Ytfeljngmidhajaa
