/- Graph files: the walks that compare lists and rows. -/
import Derived.Test.YtfeljngmidhajaaGw6
namespace Go.Proofs.Ytfeljngmidhajaa
open Go.RowKit Go.Mine

def EqRel (l m : List Int) (w : World) (g : Nat) (i : Value) (wr : World) : Prop :=
  ∃ j : Nat, j + g = l.length ∧ i = .int .i64 j ∧ l.take j = m.take j ∧ Turned (fun _ => False) w wr

set_option maxRecDepth 100000 in
set_option maxHeartbeats 1000000 in
theorem equal_any (S1 S2 : Nat → Prop) (a b : Option Addr) (cap cap2 : Nat) (l m : List Int) (w : World) (ha : Ints w S1 a cap l) (hb : Ints w S2 b cap2 m) :
    Calls Try.prog 66 #[.slice a l.length cap, .slice b m.length cap2] w fun e w' => e = .returned (.bool (decide (l = m))) ∧ Turned (fun _ => False) w w' := by
  have HA : Hid (Ints w S1 a cap l) := ha
  have HB : Hid (Ints w S2 b cap2 m) := hb
  obtain ⟨L, hL⟩ : ∃ L, L = l.length := ⟨_, rfl⟩
  obtain ⟨M, hM⟩ : ∃ M, M = m.length := ⟨_, rfl⟩
  have HL : Hid (L = l.length ∧ M = m.length) := ⟨hL, hM⟩
  rw [← hL, ← hM]
  have hcap : L ≤ 9223372036854775807 := by rw [hL]; have := ha.1; have := ha.2.1; simp only [maxLen] at this; omega
  have hcap2 : M ≤ 9223372036854775807 := by rw [hM]; have := hb.1; have := hb.2.1; simp only [maxLen] at this; omega
  by_cases hLM : L = M
  · have hq := int_eqb (L : Int) (M : Int) (by omega)
    have HLM : Hid (L = M) := hLM
    clear ha hb hL hM hLM
    have HS : Hid (EqRel l m w L (.int .i64 0) w) := ⟨0, by rw [HL.out.1, Nat.zero_add], rfl, rfl, Turned.refl _ _⟩
    go_enter Try.func66, Try.ntmps66
    go_wp2
    go_loopg [13] L (fun g i wr => EqRel l m w g i wr)
    case atStart => exact HS.out
    case round =>
      obtain ⟨j, hjg, rfl, hno, ht⟩ := hrel
      have N : Hid (l.take j = m.take j) := hno
      have T : Hid (Turned (fun _ => False) w wr) := ht
      have G : Hid (j + gk = l.length) := hjg
      clear hno ht hjg HS
      by_cases hlt : j < L
      · have hlt2 : j < M := by have := HLM.out; omega
        obtain ⟨x, hx⟩ : ∃ x, l[j]? = some x := ⟨_, List.getElem?_eq_getElem (by rw [← HL.out.1]; exact hlt)⟩
        obtain ⟨y, hy⟩ : ∃ y, m[j]? = some y := ⟨_, List.getElem?_eq_getElem (by rw [← HL.out.2]; exact hlt2)⟩
        obtain ⟨g1, o1, rfl, -, hg1, c1⟩ := ints_at (HA.out.turned T.out fun _ _ q => q) j x hx
        obtain ⟨g2, o2, rfl, -, hg2, c2⟩ := ints_at (HB.out.turned T.out fun _ _ q => q) j y hy
        have C : Hid (l[j]? = some x ∧ m[j]? = some y) := ⟨hx, hy⟩
        clear hx hy
        by_cases hxy : x = y
        · subst hxy
          have hd := int_eqb x x rfl
          go_wp2
          go_region
          all_goals go_wp2
          all_goals
            go_roundg (gk - 1)
            case measure => have := G.out; have := HL.out; omega
            case rel =>
              refine ⟨j + 1, by have := G.out; have := HL.out; omega, by simp, ?_, T.out.draw⟩
              rw [List.take_add_one, List.take_add_one, C.out.1, C.out.2, N.out]
        · have hd := int_neb x y hxy
          have HF : Hid (decide (l = m) = false) := by
            have q : decide (l = m) = false := by
              apply decide_eq_false
              intro k
              rw [k] at C
              have := C.out.1.symm.trans C.out.2
              exact hxy (Option.some.inj this)
            exact q
          clear hxy
          go_wp2
          go_region
          all_goals go_wp2
          all_goals go_ret
          all_goals exact ⟨by rw [HF.out]; rfl, T.out.draw⟩
      · have HF : Hid (decide (l = m) = true) := by
          have q : decide (l = m) = true := by
            apply decide_eq_true
            have := N.out
            rw [List.take_of_length_le (by have := HL.out; omega), List.take_of_length_le (by have := HL.out; have := HLM.out; omega)] at this
            exact this
          exact q
        go_wp2
        go_ret
        exact ⟨by rw [HF.out]; rfl, T.out⟩
  · have hq := int_neb (L : Int) (M : Int) (by omega)
    have HF : Hid (decide (l = m) = false) := by
      have q : decide (l = m) = false := decide_eq_false fun k => hLM (by rw [hL, hM, k])
      exact q
    clear ha hb hL hM hLM HL HA HB
    go_enter Try.func66, Try.ntmps66
    go_wp2
    go_ret
    exact ⟨by rw [HF.out]; rfl, Turned.refl _ _⟩

set_option maxRecDepth 100000 in
set_option maxHeartbeats 1000000 in
theorem sameList_any (S1 S2 : Nat → Prop) (a b : Option Addr) (cap cap2 : Nat) (l m : List Int) (w : World) (ha : Ints w S1 a cap l) (hb : Ints w S2 b cap2 m) :
    Calls Try.prog 90 #[.slice a l.length cap, .slice b m.length cap2] w fun e w' => e = .returned (.bool (decide (l = m))) ∧ Turned (fun _ => False) w w' := by
  have HA : Hid (Ints w S1 a cap l) := ha
  have HB : Hid (Ints w S2 b cap2 m) := hb
  obtain ⟨L, hL⟩ : ∃ L, L = l.length := ⟨_, rfl⟩
  obtain ⟨M, hM⟩ : ∃ M, M = m.length := ⟨_, rfl⟩
  have HL : Hid (L = l.length ∧ M = m.length) := ⟨hL, hM⟩
  rw [← hL, ← hM]
  have hcap : L ≤ 9223372036854775807 := by rw [hL]; have := ha.1; have := ha.2.1; simp only [maxLen] at this; omega
  have hcap2 : M ≤ 9223372036854775807 := by rw [hM]; have := hb.1; have := hb.2.1; simp only [maxLen] at this; omega
  by_cases hLM : L = M
  · have hq := int_eqb (L : Int) (M : Int) (by omega)
    have HLM : Hid (L = M) := hLM
    clear ha hb hL hM hLM
    have HS : Hid (EqRel l m w L (.int .i64 0) w) := ⟨0, by rw [HL.out.1, Nat.zero_add], rfl, rfl, Turned.refl _ _⟩
    go_enter Try.func90, Try.ntmps90
    go_wp2
    go_loopg [5] L (fun g i wr => EqRel l m w g i wr)
    case atStart => exact HS.out
    case round =>
      obtain ⟨j, hjg, rfl, hno, ht⟩ := hrel
      have N : Hid (l.take j = m.take j) := hno
      have T : Hid (Turned (fun _ => False) w wr) := ht
      have G : Hid (j + gk = l.length) := hjg
      clear hno ht hjg HS
      by_cases hlt : j < L
      · have hlt2 : j < M := by have := HLM.out; omega
        obtain ⟨x, hx⟩ : ∃ x, l[j]? = some x := ⟨_, List.getElem?_eq_getElem (by rw [← HL.out.1]; exact hlt)⟩
        obtain ⟨y, hy⟩ : ∃ y, m[j]? = some y := ⟨_, List.getElem?_eq_getElem (by rw [← HL.out.2]; exact hlt2)⟩
        obtain ⟨g1, o1, rfl, -, hg1, c1⟩ := ints_at (HA.out.turned T.out fun _ _ q => q) j x hx
        obtain ⟨g2, o2, rfl, -, hg2, c2⟩ := ints_at (HB.out.turned T.out fun _ _ q => q) j y hy
        have C : Hid (l[j]? = some x ∧ m[j]? = some y) := ⟨hx, hy⟩
        clear hx hy
        by_cases hxy : x = y
        · subst hxy
          have hd := int_eqb x x rfl
          go_wp2
          go_region
          all_goals go_wp2
          all_goals
            go_roundg (gk - 1)
            case measure => have := G.out; have := HL.out; omega
            case rel =>
              refine ⟨j + 1, by have := G.out; have := HL.out; omega, by simp, ?_, T.out.draw⟩
              rw [List.take_add_one, List.take_add_one, C.out.1, C.out.2, N.out]
        · have hd := int_neb x y hxy
          have HF : Hid (decide (l = m) = false) := by
            have q : decide (l = m) = false := by
              apply decide_eq_false
              intro k
              rw [k] at C
              have := C.out.1.symm.trans C.out.2
              exact hxy (Option.some.inj this)
            exact q
          clear hxy
          go_wp2
          go_region
          all_goals go_wp2
          all_goals go_ret
          all_goals exact ⟨by rw [HF.out]; rfl, T.out.draw⟩
      · have HF : Hid (decide (l = m) = true) := by
          have q : decide (l = m) = true := by
            apply decide_eq_true
            have := N.out
            rw [List.take_of_length_le (by have := HL.out; omega), List.take_of_length_le (by have := HL.out; have := HLM.out; omega)] at this
            exact this
          exact q
        go_wp2
        go_ret
        exact ⟨by rw [HF.out]; rfl, T.out⟩
  · have hq := int_neb (L : Int) (M : Int) (by omega)
    have HF : Hid (decide (l = m) = false) := by
      have q : decide (l = m) = false := decide_eq_false fun k => hLM (by rw [hL, hM, k])
      exact q
    clear ha hb hL hM hLM HL HA HB
    go_enter Try.func90, Try.ntmps90
    go_wp2
    go_ret
    exact ⟨by rw [HF.out]; rfl, Turned.refl _ _⟩

/-- two rows, field by field -/
def eqR (r t : Rw) : Bool := decide (r.tree = t.tree) && (decide (r.gen = t.gen) && (decide (r.state = t.state ∧ r.bits = t.bits) && decide (r.par = t.par)))
theorem eqR_iff (r t : Rw) : eqR r t = true ↔ r = t := by
  unfold eqR
  cases r; cases t
  simp only [Bool.and_eq_true, decide_eq_true_eq, Rw.mk.injEq]
  constructor
  · rintro ⟨h1, h2, ⟨h3, h4⟩, h5⟩; exact ⟨h5, h1, h2, h3, h4⟩
  · rintro ⟨h5, h1, h2, h3, h4⟩; exact ⟨h1, h2, ⟨h3, h4⟩, h5⟩
theorem eq_filter (s t : Int) (b c : ByteArray) (w : World) : (binOp .eql 59 (.agg #[.int .i64 s, .string b]) (.agg #[.int .i64 t, .string c])).run Try.prog w = .ok (.bool (decide (s = t ∧ b = c))) w := by
  simp [go_sem, Try.underlying59, Try.underlying3, Try.underlying9]
  have hb : (b.toList = c.toList) = (b = c) := by
    apply propext
    rw [ByteArray.toList_eq, ByteArray.toList_eq, Array.toList_inj]
    exact ⟨fun q => ByteArray.ext q, fun q => by rw [q]⟩
  simp only [hb]
  by_cases h1 : s = t <;> by_cases h2 : b = c <;> simp [h1, h2]

set_option maxRecDepth 100000 in
set_option maxHeartbeats 1000000 in
theorem sameRow_any (S1 S2 : Nat → Prop) (a b : Option Addr) (cap cap2 : Nat) (r t : Rw) (w : World) (ha : Ints w S1 a cap r.par) (hb : Ints w S2 b cap2 t.par) :
    Calls Try.prog 65 #[rowv a cap r, rowv b cap2 t] w fun e w' => e = .returned (.bool (eqR r t)) ∧ Turned (fun _ => False) w w' := by
  have hin : ∀ W, Turned (fun _ => False) w W → Calls Try.prog 66 #[.slice a r.par.length cap, .slice b t.par.length cap2] W fun e w' => e = .returned (.bool (decide (r.par = t.par))) ∧ Turned (fun _ => False) W w' := fun W q =>
    equal_any S1 S2 a b cap cap2 r.par t.par W (ha.turned q fun _ _ q => q) (hb.turned q fun _ _ q => q)
  have heq := eq_filter r.state t.state r.bits t.bits
  unfold rowv eqR
  obtain ⟨pe, hpe⟩ : ∃ pe, decide (r.par = t.par) = pe := ⟨_, rfl⟩
  obtain ⟨fe, hfe⟩ : ∃ fe, decide (r.state = t.state ∧ r.bits = t.bits) = fe := ⟨_, rfl⟩
  rw [hpe] at hin
  rw [hpe, hfe]
  rw [hfe] at heq
  clear hpe hfe ha hb
  generalize r.par.length = l1 at *
  generalize t.par.length = l2 at *
  generalize r.state = s1 at *
  generalize t.state = s2 at *
  generalize r.bits = b1 at *
  generalize t.bits = b2 at *
  generalize r.tree = t1 at *
  generalize t.tree = t2 at *
  generalize r.gen = g1 at *
  generalize t.gen = g2 at *
  by_cases h1 : t1 = t2
  · have d1 := int_eqb t1 t2 h1
    have e1 : Hid (decide (t1 = t2) = true) := decide_eq_true h1
    by_cases h2 : g1 = g2
    · have d2 := int_eqb g1 g2 h2
      have e2 : Hid (decide (g1 = g2) = true) := decide_eq_true h2
      clear h1 h2
      cases fe with
      | true =>
        go_enter Try.func65, Try.ntmps65
        go_wp2_with (go_at_call 66; (with_reducible refine (hin _ (((Turned.refl _ _).new _).new _)).mono ?_); rintro e w2 ⟨rfl, ht2⟩)
        go_ret
        exact ⟨by rw [e1.out, e2.out]; rfl, (((Turned.refl _ _).new _).new _).trans ht2 fun _ _ q => q⟩
      | false =>
        go_enter Try.func65, Try.ntmps65
        go_wp2
        go_ret
        exact ⟨by first | rfl | (rw [e1.out, e2.out]; rfl), ((Turned.refl _ _).new _).new _⟩
    · have d2 := int_neb g1 g2 h2
      have e2 : Hid (decide (g1 = g2) = false) := decide_eq_false h2
      clear h1 h2 heq
      go_enter Try.func65, Try.ntmps65
      go_wp2
      go_ret
      exact ⟨by first | rfl | (rw [e1.out, e2.out]; rfl), ((Turned.refl _ _).new _).new _⟩
  · have d1 := int_neb t1 t2 h1
    have e1 : Hid (decide (t1 = t2) = false) := decide_eq_false h1
    clear h1 heq
    go_enter Try.func65, Try.ntmps65
    go_wp2
    go_ret
    exact ⟨by rw [e1.out]; rfl, ((Turned.refl _ _).new _).new _⟩

set_option maxRecDepth 100000 in
set_option maxHeartbeats 1000000 in
theorem rsameRow_any (S1 S2 : Nat → Prop) (a b : Option Addr) (cap cap2 : Nat) (r t : Rw) (w : World) (ha : Ints w S1 a cap r.par) (hb : Ints w S2 b cap2 t.par) :
    Calls Try.prog 67 #[rowv a cap r, rowv b cap2 t] w fun e w' => e = .returned (.bool (eqR r t)) ∧ Turned (fun _ => False) w w' := by
  have hin : ∀ W, Turned (fun _ => False) w W → Calls Try.prog 90 #[.slice a r.par.length cap, .slice b t.par.length cap2] W fun e w' => e = .returned (.bool (decide (r.par = t.par))) ∧ Turned (fun _ => False) W w' := fun W q =>
    sameList_any S1 S2 a b cap cap2 r.par t.par W (ha.turned q fun _ _ q => q) (hb.turned q fun _ _ q => q)
  have heq := eq_filter r.state t.state r.bits t.bits
  unfold rowv eqR
  obtain ⟨pe, hpe⟩ : ∃ pe, decide (r.par = t.par) = pe := ⟨_, rfl⟩
  obtain ⟨fe, hfe⟩ : ∃ fe, decide (r.state = t.state ∧ r.bits = t.bits) = fe := ⟨_, rfl⟩
  rw [hpe] at hin
  rw [hpe, hfe]
  rw [hfe] at heq
  clear hpe hfe ha hb
  generalize r.par.length = l1 at *
  generalize t.par.length = l2 at *
  generalize r.state = s1 at *
  generalize t.state = s2 at *
  generalize r.bits = b1 at *
  generalize t.bits = b2 at *
  generalize r.tree = t1 at *
  generalize t.tree = t2 at *
  generalize r.gen = g1 at *
  generalize t.gen = g2 at *
  by_cases h1 : t1 = t2
  · have d1 := int_eqb t1 t2 h1
    have e1 : Hid (decide (t1 = t2) = true) := decide_eq_true h1
    by_cases h2 : g1 = g2
    · have d2 := int_eqb g1 g2 h2
      have e2 : Hid (decide (g1 = g2) = true) := decide_eq_true h2
      clear h1 h2
      cases fe with
      | true =>
        go_enter Try.func67, Try.ntmps67
        go_wp2_with (go_at_call 90; (with_reducible refine (hin _ (((Turned.refl _ _).new _).new _)).mono ?_); rintro e w2 ⟨rfl, ht2⟩)
        go_ret
        exact ⟨by rw [e1.out, e2.out]; rfl, (((Turned.refl _ _).new _).new _).trans ht2 fun _ _ q => q⟩
      | false =>
        go_enter Try.func67, Try.ntmps67
        go_wp2
        go_ret
        exact ⟨by first | rfl | (rw [e1.out, e2.out]; rfl), ((Turned.refl _ _).new _).new _⟩
    · have d2 := int_neb g1 g2 h2
      have e2 : Hid (decide (g1 = g2) = false) := decide_eq_false h2
      clear h1 h2 heq
      go_enter Try.func67, Try.ntmps67
      go_wp2
      go_ret
      exact ⟨by first | rfl | (rw [e1.out, e2.out]; rfl), ((Turned.refl _ _).new _).new _⟩
  · have d1 := int_neb t1 t2 h1
    have e1 : Hid (decide (t1 = t2) = false) := decide_eq_false h1
    clear h1 heq
    go_enter Try.func67, Try.ntmps67
    go_wp2
    go_ret
    exact ⟨by rw [e1.out]; rfl, ((Turned.refl _ _).new _).new _⟩

end Go.Proofs.Ytfeljngmidhajaa
