/- Graph files: the walks that compare. -/
import Derived.Test.YtfeljngmidhajaaMa
namespace Go.Proofs.Ytfeljngmidhajaa
open Go.RowKit Go.Mine

def EqRel (l m : List Int) (w : World) (g : Nat) (i : Value) (wr : World) : Prop :=
  ∃ j : Nat, j + g = l.length ∧ i = .int .i64 j ∧ l.take j = m.take j ∧ Turned (fun _ => False) w wr

set_option maxRecDepth 100000 in
set_option maxHeartbeats 1000000 in
theorem equal_any (S1 S2 : Nat → Prop) (a b : Option Addr) (cap cap2 : Nat) (l m : List Int) (w : World) (ha : Ints w S1 a cap l) (hb : Ints w S2 b cap2 m) :
    Calls Try.prog 66 #[.slice a l.length cap, .slice b m.length cap2] w fun e w' => e = .returned (.bool (decide (l = m))) ∧ Turned (fun _ => False) w w' := by
  have HA : Hid (Ints w S1 a cap l) := ha
  have HB : Hid (Ints w S2 b cap2 m) := hb
  obtain ⟨L, hL⟩ : ∃ L, L = l.length := ⟨_, rfl⟩
  obtain ⟨M, hM⟩ : ∃ M, M = m.length := ⟨_, rfl⟩
  have HL : Hid (L = l.length ∧ M = m.length) := ⟨hL, hM⟩
  rw [← hL, ← hM]
  have hcap : L ≤ 9223372036854775807 := by rw [hL]; have := ha.1; have := ha.2.1; simp only [maxLen] at this; omega
  have hcap2 : M ≤ 9223372036854775807 := by rw [hM]; have := hb.1; have := hb.2.1; simp only [maxLen] at this; omega
  by_cases hLM : L = M
  · have hq := int_eqb (L : Int) (M : Int) (by omega)
    have HLM : Hid (L = M) := hLM
    clear ha hb hL hM hLM
    have HS : Hid (EqRel l m w L (.int .i64 0) w) := ⟨0, by rw [HL.out.1, Nat.zero_add], rfl, rfl, Turned.refl _ _⟩
    go_enter Try.func66, Try.ntmps66
    go_wp2
    go_loopg [13] L (fun g i wr => EqRel l m w g i wr)
    case atStart => exact HS.out
    case round =>
      obtain ⟨j, hjg, rfl, hno, ht⟩ := hrel
      have N : Hid (l.take j = m.take j) := hno
      have T : Hid (Turned (fun _ => False) w wr) := ht
      have G : Hid (j + gk = l.length) := hjg
      clear hno ht hjg HS
      by_cases hlt : j < L
      · have hlt2 : j < M := by have := HLM.out; omega
        obtain ⟨x, hx⟩ : ∃ x, l[j]? = some x := ⟨_, List.getElem?_eq_getElem (by rw [← HL.out.1]; exact hlt)⟩
        obtain ⟨y, hy⟩ : ∃ y, m[j]? = some y := ⟨_, List.getElem?_eq_getElem (by rw [← HL.out.2]; exact hlt2)⟩
        obtain ⟨g1, o1, rfl, -, hg1, c1⟩ := ints_at (HA.out.turned T.out fun _ _ q => q) j x hx
        obtain ⟨g2, o2, rfl, -, hg2, c2⟩ := ints_at (HB.out.turned T.out fun _ _ q => q) j y hy
        have C : Hid (l[j]? = some x ∧ m[j]? = some y) := ⟨hx, hy⟩
        clear hx hy
        by_cases hxy : x = y
        · subst hxy
          have hd := int_eqb x x rfl
          go_wp2
          go_region
          all_goals go_wp2
          all_goals
            go_roundg (gk - 1)
            case measure => have := G.out; have := HL.out; omega
            case rel =>
              refine ⟨j + 1, by have := G.out; have := HL.out; omega, by simp, ?_, T.out.draw⟩
              rw [List.take_add_one, List.take_add_one, C.out.1, C.out.2, N.out]
        · have hd := int_neb x y hxy
          have HF : Hid (decide (l = m) = false) := by
            have q : decide (l = m) = false := by
              apply decide_eq_false
              intro k
              rw [k] at C
              have := C.out.1.symm.trans C.out.2
              exact hxy (Option.some.inj this)
            exact q
          clear hxy
          go_wp2
          go_region
          all_goals go_wp2
          all_goals go_ret
          all_goals exact ⟨by rw [HF.out]; rfl, T.out.draw⟩
      · have HF : Hid (decide (l = m) = true) := by
          have q : decide (l = m) = true := by
            apply decide_eq_true
            have := N.out
            rw [List.take_of_length_le (by have := HL.out; omega), List.take_of_length_le (by have := HL.out; have := HLM.out; omega)] at this
            exact this
          exact q
        go_wp2
        go_ret
        exact ⟨by rw [HF.out]; rfl, T.out⟩
  · have hq := int_neb (L : Int) (M : Int) (by omega)
    have HF : Hid (decide (l = m) = false) := by
      have q : decide (l = m) = false := decide_eq_false fun k => hLM (by rw [hL, hM, k])
      exact q
    clear ha hb hL hM hLM HL HA HB
    go_enter Try.func66, Try.ntmps66
    go_wp2
    go_ret
    exact ⟨by rw [HF.out]; rfl, Turned.refl _ _⟩

set_option maxRecDepth 100000 in
set_option maxHeartbeats 1000000 in
theorem sameList_any (S1 S2 : Nat → Prop) (a b : Option Addr) (cap cap2 : Nat) (l m : List Int) (w : World) (ha : Ints w S1 a cap l) (hb : Ints w S2 b cap2 m) :
    Calls Try.prog 90 #[.slice a l.length cap, .slice b m.length cap2] w fun e w' => e = .returned (.bool (decide (l = m))) ∧ Turned (fun _ => False) w w' := by
  have HA : Hid (Ints w S1 a cap l) := ha
  have HB : Hid (Ints w S2 b cap2 m) := hb
  obtain ⟨L, hL⟩ : ∃ L, L = l.length := ⟨_, rfl⟩
  obtain ⟨M, hM⟩ : ∃ M, M = m.length := ⟨_, rfl⟩
  have HL : Hid (L = l.length ∧ M = m.length) := ⟨hL, hM⟩
  rw [← hL, ← hM]
  have hcap : L ≤ 9223372036854775807 := by rw [hL]; have := ha.1; have := ha.2.1; simp only [maxLen] at this; omega
  have hcap2 : M ≤ 9223372036854775807 := by rw [hM]; have := hb.1; have := hb.2.1; simp only [maxLen] at this; omega
  by_cases hLM : L = M
  · have hq := int_eqb (L : Int) (M : Int) (by omega)
    have HLM : Hid (L = M) := hLM
    clear ha hb hL hM hLM
    have HS : Hid (EqRel l m w L (.int .i64 0) w) := ⟨0, by rw [HL.out.1, Nat.zero_add], rfl, rfl, Turned.refl _ _⟩
    go_enter Try.func90, Try.ntmps90
    go_wp2
    go_loopg [5] L (fun g i wr => EqRel l m w g i wr)
    case atStart => exact HS.out
    case round =>
      obtain ⟨j, hjg, rfl, hno, ht⟩ := hrel
      have N : Hid (l.take j = m.take j) := hno
      have T : Hid (Turned (fun _ => False) w wr) := ht
      have G : Hid (j + gk = l.length) := hjg
      clear hno ht hjg HS
      by_cases hlt : j < L
      · have hlt2 : j < M := by have := HLM.out; omega
        obtain ⟨x, hx⟩ : ∃ x, l[j]? = some x := ⟨_, List.getElem?_eq_getElem (by rw [← HL.out.1]; exact hlt)⟩
        obtain ⟨y, hy⟩ : ∃ y, m[j]? = some y := ⟨_, List.getElem?_eq_getElem (by rw [← HL.out.2]; exact hlt2)⟩
        obtain ⟨g1, o1, rfl, -, hg1, c1⟩ := ints_at (HA.out.turned T.out fun _ _ q => q) j x hx
        obtain ⟨g2, o2, rfl, -, hg2, c2⟩ := ints_at (HB.out.turned T.out fun _ _ q => q) j y hy
        have C : Hid (l[j]? = some x ∧ m[j]? = some y) := ⟨hx, hy⟩
        clear hx hy
        by_cases hxy : x = y
        · subst hxy
          have hd := int_eqb x x rfl
          go_wp2
          go_region
          all_goals go_wp2
          all_goals
            go_roundg (gk - 1)
            case measure => have := G.out; have := HL.out; omega
            case rel =>
              refine ⟨j + 1, by have := G.out; have := HL.out; omega, by simp, ?_, T.out.draw⟩
              rw [List.take_add_one, List.take_add_one, C.out.1, C.out.2, N.out]
        · have hd := int_neb x y hxy
          have HF : Hid (decide (l = m) = false) := by
            have q : decide (l = m) = false := by
              apply decide_eq_false
              intro k
              rw [k] at C
              have := C.out.1.symm.trans C.out.2
              exact hxy (Option.some.inj this)
            exact q
          clear hxy
          go_wp2
          go_region
          all_goals go_wp2
          all_goals go_ret
          all_goals exact ⟨by rw [HF.out]; rfl, T.out.draw⟩
      · have HF : Hid (decide (l = m) = true) := by
          have q : decide (l = m) = true := by
            apply decide_eq_true
            have := N.out
            rw [List.take_of_length_le (by have := HL.out; omega), List.take_of_length_le (by have := HL.out; have := HLM.out; omega)] at this
            exact this
          exact q
        go_wp2
        go_ret
        exact ⟨by rw [HF.out]; rfl, T.out⟩
  · have hq := int_neb (L : Int) (M : Int) (by omega)
    have HF : Hid (decide (l = m) = false) := by
      have q : decide (l = m) = false := decide_eq_false fun k => hLM (by rw [hL, hM, k])
      exact q
    clear ha hb hL hM hLM HL HA HB
    go_enter Try.func90, Try.ntmps90
    go_wp2
    go_ret
    exact ⟨by rw [HF.out]; rfl, Turned.refl _ _⟩

/-- two rows, field by field -/
def eqR (r t : Rw) : Bool := decide (r.tree = t.tree) && (decide (r.gen = t.gen) && (decide (r.state = t.state ∧ r.bits = t.bits) && decide (r.par = t.par)))
theorem eqR_iff (r t : Rw) : eqR r t = true ↔ r = t := by
  unfold eqR
  cases r; cases t
  simp only [Bool.and_eq_true, decide_eq_true_eq, Rw.mk.injEq]
  constructor
  · rintro ⟨h1, h2, ⟨h3, h4⟩, h5⟩; exact ⟨h5, h1, h2, h3, h4⟩
  · rintro ⟨h5, h1, h2, h3, h4⟩; exact ⟨h1, h2, ⟨h3, h4⟩, h5⟩
theorem eq_filter (s t : Int) (b c : ByteArray) (w : World) : (binOp .eql 59 (.agg #[.int .i64 s, .string b]) (.agg #[.int .i64 t, .string c])).run Try.prog w = .ok (.bool (decide (s = t ∧ b = c))) w := by
  simp [go_sem, Try.underlying59, Try.underlying3, Try.underlying9]
  have hb : (b.toList = c.toList) = (b = c) := by
    apply propext
    rw [ByteArray.toList_eq, ByteArray.toList_eq, Array.toList_inj]
    exact ⟨fun q => ByteArray.ext q, fun q => by rw [q]⟩
  simp only [hb]
  by_cases h1 : s = t <;> by_cases h2 : b = c <;> simp [h1, h2]

set_option maxRecDepth 100000 in
set_option maxHeartbeats 1000000 in
theorem sameRow_any (S1 S2 : Nat → Prop) (a b : Option Addr) (cap cap2 : Nat) (r t : Rw) (w : World) (ha : Ints w S1 a cap r.par) (hb : Ints w S2 b cap2 t.par) :
    Calls Try.prog 65 #[rowv a cap r, rowv b cap2 t] w fun e w' => e = .returned (.bool (eqR r t)) ∧ Turned (fun _ => False) w w' := by
  have hin : ∀ W, Turned (fun _ => False) w W → Calls Try.prog 66 #[.slice a r.par.length cap, .slice b t.par.length cap2] W fun e w' => e = .returned (.bool (decide (r.par = t.par))) ∧ Turned (fun _ => False) W w' := fun W q =>
    equal_any S1 S2 a b cap cap2 r.par t.par W (ha.turned q fun _ _ q => q) (hb.turned q fun _ _ q => q)
  have heq := eq_filter r.state t.state r.bits t.bits
  unfold rowv eqR
  obtain ⟨pe, hpe⟩ : ∃ pe, decide (r.par = t.par) = pe := ⟨_, rfl⟩
  obtain ⟨fe, hfe⟩ : ∃ fe, decide (r.state = t.state ∧ r.bits = t.bits) = fe := ⟨_, rfl⟩
  rw [hpe] at hin
  rw [hpe, hfe]
  rw [hfe] at heq
  clear hpe hfe ha hb
  generalize r.par.length = l1 at *
  generalize t.par.length = l2 at *
  generalize r.state = s1 at *
  generalize t.state = s2 at *
  generalize r.bits = b1 at *
  generalize t.bits = b2 at *
  generalize r.tree = t1 at *
  generalize t.tree = t2 at *
  generalize r.gen = g1 at *
  generalize t.gen = g2 at *
  by_cases h1 : t1 = t2
  · have d1 := int_eqb t1 t2 h1
    have e1 : Hid (decide (t1 = t2) = true) := decide_eq_true h1
    by_cases h2 : g1 = g2
    · have d2 := int_eqb g1 g2 h2
      have e2 : Hid (decide (g1 = g2) = true) := decide_eq_true h2
      clear h1 h2
      cases fe with
      | true =>
        go_enter Try.func65, Try.ntmps65
        go_wp2_with (go_at_call 66; (with_reducible refine (hin _ (((Turned.refl _ _).new _).new _)).mono ?_); rintro e w2 ⟨rfl, ht2⟩)
        go_ret
        exact ⟨by rw [e1.out, e2.out]; rfl, (((Turned.refl _ _).new _).new _).trans ht2 fun _ _ q => q⟩
      | false =>
        go_enter Try.func65, Try.ntmps65
        go_wp2
        go_ret
        exact ⟨by first | rfl | (rw [e1.out, e2.out]; rfl), ((Turned.refl _ _).new _).new _⟩
    · have d2 := int_neb g1 g2 h2
      have e2 : Hid (decide (g1 = g2) = false) := decide_eq_false h2
      clear h1 h2 heq
      go_enter Try.func65, Try.ntmps65
      go_wp2
      go_ret
      exact ⟨by first | rfl | (rw [e1.out, e2.out]; rfl), ((Turned.refl _ _).new _).new _⟩
  · have d1 := int_neb t1 t2 h1
    have e1 : Hid (decide (t1 = t2) = false) := decide_eq_false h1
    clear h1 heq
    go_enter Try.func65, Try.ntmps65
    go_wp2
    go_ret
    exact ⟨by rw [e1.out]; rfl, ((Turned.refl _ _).new _).new _⟩

set_option maxRecDepth 100000 in
set_option maxHeartbeats 1000000 in
theorem rsameRow_any (S1 S2 : Nat → Prop) (a b : Option Addr) (cap cap2 : Nat) (r t : Rw) (w : World) (ha : Ints w S1 a cap r.par) (hb : Ints w S2 b cap2 t.par) :
    Calls Try.prog 67 #[rowv a cap r, rowv b cap2 t] w fun e w' => e = .returned (.bool (eqR r t)) ∧ Turned (fun _ => False) w w' := by
  have hin : ∀ W, Turned (fun _ => False) w W → Calls Try.prog 90 #[.slice a r.par.length cap, .slice b t.par.length cap2] W fun e w' => e = .returned (.bool (decide (r.par = t.par))) ∧ Turned (fun _ => False) W w' := fun W q =>
    sameList_any S1 S2 a b cap cap2 r.par t.par W (ha.turned q fun _ _ q => q) (hb.turned q fun _ _ q => q)
  have heq := eq_filter r.state t.state r.bits t.bits
  unfold rowv eqR
  obtain ⟨pe, hpe⟩ : ∃ pe, decide (r.par = t.par) = pe := ⟨_, rfl⟩
  obtain ⟨fe, hfe⟩ : ∃ fe, decide (r.state = t.state ∧ r.bits = t.bits) = fe := ⟨_, rfl⟩
  rw [hpe] at hin
  rw [hpe, hfe]
  rw [hfe] at heq
  clear hpe hfe ha hb
  generalize r.par.length = l1 at *
  generalize t.par.length = l2 at *
  generalize r.state = s1 at *
  generalize t.state = s2 at *
  generalize r.bits = b1 at *
  generalize t.bits = b2 at *
  generalize r.tree = t1 at *
  generalize t.tree = t2 at *
  generalize r.gen = g1 at *
  generalize t.gen = g2 at *
  by_cases h1 : t1 = t2
  · have d1 := int_eqb t1 t2 h1
    have e1 : Hid (decide (t1 = t2) = true) := decide_eq_true h1
    by_cases h2 : g1 = g2
    · have d2 := int_eqb g1 g2 h2
      have e2 : Hid (decide (g1 = g2) = true) := decide_eq_true h2
      clear h1 h2
      cases fe with
      | true =>
        go_enter Try.func67, Try.ntmps67
        go_wp2_with (go_at_call 90; (with_reducible refine (hin _ (((Turned.refl _ _).new _).new _)).mono ?_); rintro e w2 ⟨rfl, ht2⟩)
        go_ret
        exact ⟨by rw [e1.out, e2.out]; rfl, (((Turned.refl _ _).new _).new _).trans ht2 fun _ _ q => q⟩
      | false =>
        go_enter Try.func67, Try.ntmps67
        go_wp2
        go_ret
        exact ⟨by first | rfl | (rw [e1.out, e2.out]; rfl), ((Turned.refl _ _).new _).new _⟩
    · have d2 := int_neb g1 g2 h2
      have e2 : Hid (decide (g1 = g2) = false) := decide_eq_false h2
      clear h1 h2 heq
      go_enter Try.func67, Try.ntmps67
      go_wp2
      go_ret
      exact ⟨by first | rfl | (rw [e1.out, e2.out]; rfl), ((Turned.refl _ _).new _).new _⟩
  · have d1 := int_neb t1 t2 h1
    have e1 : Hid (decide (t1 = t2) = false) := decide_eq_false h1
    clear h1 heq
    go_enter Try.func67, Try.ntmps67
    go_wp2
    go_ret
    exact ⟨by rw [e1.out]; rfl, ((Turned.refl _ _).new _).new _⟩

end Go.Proofs.Ytfeljngmidhajaa

namespace Go.Proofs.Ytfeljngmidhajaa
open Go.RowKit Go.Mine

def EqlRel (l m : List Rw) (w : World) (g : Nat) (i : Value) (wr : World) : Prop :=
  ∃ j : Nat, j + g = l.length ∧ i = .int .i64 j ∧ l.take j = m.take j ∧ Turned (fun _ => False) w wr
def SmRel (l m : List Rw) (w : World) (cx cy : Array Value) (g : Nat) (i : Value) (wr : World) : Prop :=
  ∃ j : Nat, j + g = l.length ∧ i = .int .i64 j ∧ l.take j = m.take j ∧ wr.heap[w.heap.size]? = some (.cells cx 40 (0, 0)) ∧ wr.heap[w.heap.size + 1]? = some (.cells cy 40 (0, 0)) ∧ Turned (fun _ => False) w wr
theorem int_bne (x y : Int) (h : x = y) : (x != y) = false := by simp [h]
theorem int_bne2 (x y : Int) (h : x ≠ y) : (x != y) = true := by simp [h]
open Classical in
noncomputable def sameL (l m : List Rw) : Bool := decide (l = m)
theorem sameL_yes {l m : List Rw} (h : l = m) : sameL l m = true := by unfold sameL; simpa using h
theorem sameL_no {l m : List Rw} (h : ¬ l = m) : sameL l m = false := by unfold sameL; simpa using h
theorem sameL_iff {l m : List Rw} : sameL l m = true ↔ l = m := by unfold sameL; simp
noncomputable def sameG (x y : Gr) : Bool := decide (x.base = y.base) && (decide (x.h = y.h ∧ x.p = y.p ∧ x.m = y.m ∧ x.seed = y.seed) && sameL x.rows y.rows)
theorem sameG_iff (x y : Gr) : sameG x y = true ↔ x = y := by
  unfold sameG
  cases x; cases y
  simp only [Bool.and_eq_true, decide_eq_true_eq, Gr.mk.injEq, sameL_iff]
  constructor
  · rintro ⟨h1, ⟨h2, h3, h4, h5⟩, h6⟩; exact ⟨h1, h2, h3, h4, h5, h6⟩
  · rintro ⟨h1, h2, h3, h4, h5, h6⟩; exact ⟨h1, ⟨h2, h3, h4, h5⟩, h6⟩
theorem eq_settings (h h' p p' m m' : Int) (s s' : Nat) (w : World) : (binOp .eql 37 (.agg #[.int .i64 h, .int .i64 p, .int .i64 m, .int .u32 (s : Nat)]) (.agg #[.int .i64 h', .int .i64 p', .int .i64 m', .int .u32 (s' : Nat)])).run Try.prog w = .ok (.bool (decide (h = h' ∧ p = p' ∧ m = m' ∧ s = s'))) w := by
  by_cases h1 : h = h' <;> by_cases h2 : p = p' <;> by_cases h3 : m = m' <;> by_cases h4 : s = s' <;> simp [go_sem, Try.underlying37, Try.underlying3, Try.underlying29, h1, h2, h3, h4] <;> omega
theorem ne_settings (h h' p p' m m' : Int) (s s' : Nat) (w : World) : (binOp .neq 37 (.agg #[.int .i64 h, .int .i64 p, .int .i64 m, .int .u32 (s : Nat)]) (.agg #[.int .i64 h', .int .i64 p', .int .i64 m', .int .u32 (s' : Nat)])).run Try.prog w = .ok (.bool (!decide (h = h' ∧ p = p' ∧ m = m' ∧ s = s'))) w := by
  by_cases h1 : h = h' <;> by_cases h2 : p = p' <;> by_cases h3 : m = m' <;> by_cases h4 : s = s' <;> simp [go_sem, Try.underlying37, Try.underlying3, Try.underlying29, h1, h2, h3, h4] <;> omega

set_option maxRecDepth 100000 in
set_option maxHeartbeats 1000000 in
theorem equalFunc_any (S1 S2 : Nat → Prop) (a b : Option Addr) (cap cap2 : Nat) (l m : List Rw) (w : World) (ha : RwIs w S1 a cap l) (hb : RwIs w S2 b cap2 m) :
    Calls Try.prog 64 #[.slice a l.length cap, .slice b m.length cap2, .func (.func 65) #[] #[]] w fun e w' => e = .returned (.bool (sameL l m)) ∧ Turned (fun _ => False) w w' := by
  have HA : Hid (RwIs w S1 a cap l) := ha
  have HB : Hid (RwIs w S2 b cap2 m) := hb
  obtain ⟨L, hL⟩ : ∃ L, L = l.length := ⟨_, rfl⟩
  obtain ⟨M, hM⟩ : ∃ M, M = m.length := ⟨_, rfl⟩
  have HL : Hid (L = l.length ∧ M = m.length) := ⟨hL, hM⟩
  rw [← hL, ← hM]
  have hcap : L ≤ 9223372036854775807 := by rw [hL]; have := ha.1; have := ha.2.1; simp only [maxLen] at this; omega
  have hcap2 : M ≤ 9223372036854775807 := by rw [hM]; have := hb.1; have := hb.2.1; simp only [maxLen] at this; omega
  by_cases hLM : L = M
  · subst hLM
    have HLM : Hid (L = L) := rfl
    clear ha hb hL hM
    have HS : Hid (EqlRel l m w L (.int .i64 0) w) := ⟨0, by rw [HL.out.1, Nat.zero_add], rfl, rfl, Turned.refl _ _⟩
    go_enter Try.func64, Try.ntmps64
    go_wp2
    go_loopg [17] L (fun g i wr => EqlRel l m w g i wr)
    case atStart => exact HS.out
    case round =>
      obtain ⟨j, hjg, rfl, hno, ht⟩ := hrel
      have N : Hid (l.take j = m.take j) := hno
      have T : Hid (Turned (fun _ => False) w wr) := ht
      have G : Hid (j + gk = l.length) := hjg
      clear hno ht hjg HS
      by_cases hlt : j < L
      · have hlt2 : j < L := hlt
        obtain ⟨x, hx⟩ : ∃ x, l[j]? = some x := ⟨_, List.getElem?_eq_getElem (by rw [← HL.out.1]; exact hlt)⟩
        obtain ⟨y, hy⟩ : ∃ y, m[j]? = some y := ⟨_, List.getElem?_eq_getElem (by rw [← HL.out.2]; exact hlt2)⟩
        obtain ⟨g1, o1, rfl, -, hg1, ra, rcap, hi1, c0, c1, c2, c3, c4⟩ := rows_at (HA.out.turned T.out fun _ _ q => q) j x hx
        obtain ⟨g2, o2, rfl, -, hg2, rb, rcap2, hi2, d0, d1, d2, d3, d4⟩ := rows_at (HB.out.turned T.out fun _ _ q => q) j y hy
        have C : Hid (l[j]? = some x ∧ m[j]? = some y) := ⟨hx, hy⟩
        have hro : ∀ W, Turned (fun _ => False) wr W → Calls Try.prog 65 #[rowv ra rcap x, rowv rb rcap2 y] W fun e w' => e = .returned (.bool (eqR x y)) ∧ Turned (fun _ => False) W w' := fun W q => sameRow_any S1 S2 ra rb rcap rcap2 x y W (hi1.turned q fun _ _ q => q) (hi2.turned q fun _ _ q => q)
        clear hx hy hi1 hi2
        by_cases hxy : x = y
        · rw [(eqR_iff x y).2 hxy] at hro
          have HXY : Hid (x = y) := hxy
          clear hxy
          unfold rowv at hro
          generalize x.par.length = x0 at *
          generalize x.tree = x1 at *
          generalize x.gen = x2 at *
          generalize x.state = x3 at *
          generalize x.bits = x4 at *
          generalize y.par.length = y0 at *
          generalize y.tree = y1 at *
          generalize y.gen = y2 at *
          generalize y.state = y3 at *
          generalize y.bits = y4 at *
          have NB : Hid (g1 ≠ wr.heap.size ∧ g2 ≠ wr.heap.size) := ⟨by omega, by omega⟩
          go_wp2_with (go_at_call 65; (with_reducible refine (hro _ (((Turned.refl _ _).new _).new _)).mono ?_); rintro e w2 ⟨rfl, ht2⟩)
          go_roundg (gk - 1)
          case measure => have := G.out; have := HL.out; omega
          case rel =>
            refine ⟨j + 1, by have := G.out; have := HL.out; omega, by simp, ?_, ((T.out.new _).new _).trans ht2 fun _ _ q => q⟩
            rw [List.take_add_one, List.take_add_one, C.out.1, C.out.2, N.out, HXY.out]
        · have hne : eqR x y = false := by
            cases hz : eqR x y with
            | true => exact absurd ((eqR_iff x y).1 hz) hxy
            | false => rfl
          rw [hne] at hro
          have HF : Hid (sameL l m = false) := by
            have q : sameL l m = false := by
              refine sameL_no fun k => ?_
              rw [k] at C
              have := C.out.1.symm.trans C.out.2
              exact hxy (Option.some.inj this)
            exact q
          clear hxy hne
          unfold rowv at hro
          generalize x.par.length = x0 at *
          generalize x.tree = x1 at *
          generalize x.gen = x2 at *
          generalize x.state = x3 at *
          generalize x.bits = x4 at *
          generalize y.par.length = y0 at *
          generalize y.tree = y1 at *
          generalize y.gen = y2 at *
          generalize y.state = y3 at *
          generalize y.bits = y4 at *
          go_wp2_with (go_at_call 65; (with_reducible refine (hro _ (((Turned.refl _ _).new _).new _)).mono ?_); rintro e w2 ⟨rfl, ht2⟩)
          go_ret
          exact ⟨by rw [HF.out]; rfl, ((T.out.new _).new _).trans ht2 fun _ _ q => q⟩
      · have HF : Hid (sameL l m = true) := by
          have q : sameL l m = true := by
            refine sameL_yes ?_
            have := N.out
            rw [List.take_of_length_le (by have := HL.out; omega), List.take_of_length_le (by have := HL.out; have := HLM.out; omega)] at this
            exact this
          exact q
        go_wp2
        go_ret
        exact ⟨by rw [HF.out]; rfl, T.out⟩
  · have hq := int_neb (L : Int) (M : Int) (by omega)
    have HF : Hid (sameL l m = false) := by
      have q : sameL l m = false := sameL_no fun k => hLM (by rw [hL, hM, k])
      exact q
    clear ha hb hL hM hLM HL HA HB
    go_enter Try.func64, Try.ntmps64
    go_wp2
    go_ret
    exact ⟨by rw [HF.out]; rfl, Turned.refl _ _⟩

set_option maxRecDepth 100000 in
set_option maxHeartbeats 1000000 in
theorem gsame_any (S1 S2 : Nat → Prop) (a b : Option Addr) (cap cap2 : Nat) (x y : Gr) (w : World) (ha : RwIs w S1 a cap x.rows) (hb : RwIs w S2 b cap2 y.rows) :
    Calls Try.prog 32 #[grv a cap x, grv b cap2 y] w fun e w' => e = .returned (.bool (sameG x y)) ∧ Turned (fun _ => False) w w' := by
  have hin : ∀ W, Turned (fun _ => False) w W → Calls Try.prog 64 #[.slice a x.rows.length cap, .slice b y.rows.length cap2, .func (.func 65) #[] #[]] W fun e w' => e = .returned (.bool (sameL x.rows y.rows)) ∧ Turned (fun _ => False) W w' := fun W q =>
    equalFunc_any S1 S2 a b cap cap2 x.rows y.rows W (ha.turned q fun _ _ q => q) (hb.turned q fun _ _ q => q)
  have heq := eq_settings x.h y.h x.p y.p x.m y.m x.seed y.seed
  unfold grv sameG
  obtain ⟨pe, hpe⟩ : ∃ pe, sameL x.rows y.rows = pe := ⟨_, rfl⟩
  obtain ⟨fe, hfe⟩ : ∃ fe, decide (x.h = y.h ∧ x.p = y.p ∧ x.m = y.m ∧ x.seed = y.seed) = fe := ⟨_, rfl⟩
  rw [hpe] at hin
  rw [hpe, hfe]
  rw [hfe] at heq
  clear hpe hfe ha hb
  generalize x.rows.length = l1 at *
  generalize y.rows.length = l2 at *
  generalize x.base = b1 at *
  generalize y.base = b2 at *
  generalize x.h = h1x at *
  generalize y.h = h2x at *
  generalize x.p = p1 at *
  generalize y.p = p2 at *
  generalize x.m = m1 at *
  generalize y.m = m2 at *
  generalize x.seed = s1 at *
  generalize y.seed = s2 at *
  by_cases h1 : b1 = b2
  · have d1 := int_eqb b1 b2 h1
    have e1 : Hid (decide (b1 = b2) = true) := decide_eq_true h1
    clear h1
    cases fe with
    | true =>
      go_enter Try.func32, Try.ntmps32
      go_wp2_with (go_at_call 64; (with_reducible refine (hin _ (((Turned.refl _ _).new _).new _)).mono ?_); rintro e w2 ⟨rfl, ht2⟩)
      go_ret
      exact ⟨by rw [e1.out]; rfl, (((Turned.refl _ _).new _).new _).trans ht2 fun _ _ q => q⟩
    | false =>
      go_enter Try.func32, Try.ntmps32
      go_wp2
      go_ret
      exact ⟨by first | rfl | (rw [e1.out]; rfl), ((Turned.refl _ _).new _).new _⟩
  · have d1 := int_neb b1 b2 h1
    have e1 : Hid (decide (b1 = b2) = false) := decide_eq_false h1
    clear h1 heq
    go_enter Try.func32, Try.ntmps32
    go_wp2
    go_ret
    exact ⟨by first | rfl | (rw [e1.out]; rfl), ((Turned.refl _ _).new _).new _⟩

set_option maxRecDepth 100000 in
set_option maxHeartbeats 2000000 in
theorem grsame_any (S1 S2 : Nat → Prop) (a b : Option Addr) (cap cap2 : Nat) (x y : Gr) (w : World) (ha : RwIs w S1 a cap x.rows) (hb : RwIs w S2 b cap2 y.rows) :
    Calls Try.prog 33 #[grv a cap x, grv b cap2 y] w fun e w' => e = .returned (.bool (sameG x y)) ∧ Turned (fun _ => False) w w' := by
  have HA : Hid (RwIs w S1 a cap x.rows) := ha
  have HB : Hid (RwIs w S2 b cap2 y.rows) := hb
  obtain ⟨L, hL⟩ : ∃ L, L = x.rows.length := ⟨_, rfl⟩
  obtain ⟨M, hM⟩ : ∃ M, M = y.rows.length := ⟨_, rfl⟩
  have HL : Hid (L = x.rows.length ∧ M = y.rows.length) := ⟨hL, hM⟩
  have hcap : L ≤ 9223372036854775807 := by rw [hL]; have := ha.1; have := ha.2.1; simp only [maxLen] at this; omega
  have hcap2 : M ≤ 9223372036854775807 := by rw [hM]; have := hb.1; have := hb.2.1; simp only [maxLen] at this; omega
  have heq := ne_settings x.h y.h x.p y.p x.m y.m x.seed y.seed
  have ROWS : Hid (L ≠ M → sameL x.rows y.rows = false) := by
    have q : L ≠ M → sameL x.rows y.rows = false := fun q => sameL_no fun k => q (by rw [hL, hM, k])
    exact q
  unfold grv sameG
  rw [← hL, ← hM]
  obtain ⟨fe, hfe⟩ : ∃ fe, decide (x.h = y.h ∧ x.p = y.p ∧ x.m = y.m ∧ x.seed = y.seed) = fe := ⟨_, rfl⟩
  rw [hfe]
  rw [hfe] at heq
  clear hfe ha hb hL hM
  generalize x.rows = l at *
  generalize y.rows = m at *
  generalize x.base = b1 at *
  generalize y.base = b2 at *
  generalize x.h = h1x at *
  generalize y.h = h2x at *
  generalize x.p = p1 at *
  generalize y.p = p2 at *
  generalize x.m = m1 at *
  generalize y.m = m2 at *
  generalize x.seed = s1 at *
  generalize y.seed = s2 at *
  by_cases h1 : b1 = b2
  · have d1 := int_eqb b1 b2 h1
    have d1' := int_bne b1 b2 h1
    have e1 : Hid (decide (b1 = b2) = true) := decide_eq_true h1
    clear h1
    cases fe with
    | false =>
      simp only [Bool.not_false] at heq
      clear HA HB HL ROWS
      go_enter Try.func33, Try.ntmps33
      go_wp2
      go_ret
      exact ⟨by first | rfl | (rw [e1.out]; rfl), ((Turned.refl _ _).new _).new _⟩
    | true =>
      simp only [Bool.not_true] at heq
      by_cases hLM : L = M
      · subst hLM
        have HLM : Hid (L = L) := rfl
        have E : Hid ((decide (b1 = b2) && (true && sameL l m)) = sameL l m) := by
          have q : (decide (b1 = b2) && (true && sameL l m)) = sameL l m := by rw [e1.out]; rfl
          exact q
        have HS : Hid (SmRel l m w #[.int .i64 b1, .int .i64 h1x, .int .i64 p1, .int .i64 m1, .int .u32 (s1 : Nat), .slice a L cap] #[.int .i64 b2, .int .i64 h2x, .int .i64 p2, .int .i64 m2, .int .u32 (s2 : Nat), .slice b L cap2] L (.int .i64 0) ((w.alloc (.cells #[.int .i64 b1, .int .i64 h1x, .int .i64 p1, .int .i64 m1, .int .u32 (s1 : Nat), .slice a L cap] 40)).alloc (.cells #[.int .i64 b2, .int .i64 h2x, .int .i64 p2, .int .i64 m2, .int .u32 (s2 : Nat), .slice b L cap2] 40))) :=
          ⟨0, by rw [HL.out.1, Nat.zero_add], rfl, rfl, Go.Mine.heap_alloc_old (heap_alloc_last w _), by have := heap_alloc_last (w.alloc (.cells #[.int .i64 b1, .int .i64 h1x, .int .i64 p1, .int .i64 m1, .int .u32 (s1 : Nat), .slice a L cap] 40)) (.cells #[.int .i64 b2, .int .i64 h2x, .int .i64 p2, .int .i64 m2, .int .u32 (s2 : Nat), .slice b L cap2] 40); simpa using this, ((Turned.refl _ _).new _).new _⟩
        clear ROWS
        go_enter Try.func33, Try.ntmps33
        go_wp2
        go_loopg [5] L (fun g i wr => SmRel l m w #[.int .i64 b1, .int .i64 h1x, .int .i64 p1, .int .i64 m1, .int .u32 (s1 : Nat), .slice a L cap] #[.int .i64 b2, .int .i64 h2x, .int .i64 p2, .int .i64 m2, .int .u32 (s2 : Nat), .slice b L cap2] g i wr)
        case atStart => exact HS.out
        case round =>
          obtain ⟨j, hjg, rfl, hno, hbx, hby, ht⟩ := hrel
          have N : Hid (l.take j = m.take j) := hno
          have T : Hid (Turned (fun _ => False) w wr) := ht
          have G : Hid (j + gk = l.length) := hjg
          have BK : Hid (wr.heap[w.heap.size]? = some (.cells #[.int .i64 b1, .int .i64 h1x, .int .i64 p1, .int .i64 m1, .int .u32 (s1 : Nat), .slice a L cap] 40 (0, 0)) ∧ wr.heap[w.heap.size + 1]? = some (.cells #[.int .i64 b2, .int .i64 h2x, .int .i64 p2, .int .i64 m2, .int .u32 (s2 : Nat), .slice b L cap2] 40 (0, 0))) := ⟨hbx, hby⟩
          have hlx := lt_of_block hbx
          have hly := lt_of_block hby
          have kx := cell_of hbx 5 _ rfl
          have ky := cell_of hby 5 _ rfl
          clear hno ht hjg HS hbx hby
          by_cases hlt : j < L
          · have hlt2 : j < L := hlt
            obtain ⟨r, hx⟩ : ∃ r, l[j]? = some r := ⟨_, List.getElem?_eq_getElem (by rw [← HL.out.1]; exact hlt)⟩
            obtain ⟨t, hy⟩ : ∃ t, m[j]? = some t := ⟨_, List.getElem?_eq_getElem (by rw [← HL.out.2]; exact hlt2)⟩
            obtain ⟨g1, o1, rfl, -, hg1, ra, rcap, hi1, c0, c1, c2, c3, c4⟩ := rows_at (HA.out.turned T.out fun _ _ q => q) j r hx
            obtain ⟨g2, o2, rfl, -, hg2, rb, rcap2, hi2, d0, d1, d2, d3, d4⟩ := rows_at (HB.out.turned T.out fun _ _ q => q) j t hy
            have C : Hid (l[j]? = some r ∧ m[j]? = some t) := ⟨hx, hy⟩
            have hro : ∀ W, Turned (fun _ => False) wr W → Calls Try.prog 67 #[rowv ra rcap r, rowv rb rcap2 t] W fun e w' => e = .returned (.bool (eqR r t)) ∧ Turned (fun _ => False) W w' := fun W q => rsameRow_any S1 S2 ra rb rcap rcap2 r t W (hi1.turned q fun _ _ q => q) (hi2.turned q fun _ _ q => q)
            clear hx hy hi1 hi2
            by_cases hxy : r = t
            · rw [(eqR_iff r t).2 hxy] at hro
              have HXY : Hid (r = t) := hxy
              clear hxy
              unfold rowv at hro
              generalize r.par.length = x0 at *
              generalize r.tree = x1 at *
              generalize r.gen = x2 at *
              generalize r.state = x3 at *
              generalize r.bits = x4 at *
              generalize t.par.length = y0 at *
              generalize t.tree = y1 at *
              generalize t.gen = y2 at *
              generalize t.state = y3 at *
              generalize t.bits = y4 at *
              go_wp2
              go_region_with (go_at_call 67; (with_reducible refine (hro _ (Turned.drew _ _)).mono ?_); rintro e w2 ⟨rfl, ht2⟩)
              all_goals go_wp2
              all_goals
                go_roundg (gk - 1)
                case measure => have := G.out; have := HL.out; omega
                case rel =>
                  refine ⟨j + 1, by have := G.out; have := HL.out; omega, by simp, ?_, (ht2.block _ hlx fun q => q).trans BK.out.1, (ht2.block _ hly fun q => q).trans BK.out.2, T.out.draw.trans ht2 fun _ _ q => q⟩
                  rw [List.take_add_one, List.take_add_one, C.out.1, C.out.2, N.out, HXY.out]
            · have hne : eqR r t = false := by
                cases hz : eqR r t with
                | true => exact absurd ((eqR_iff r t).1 hz) hxy
                | false => rfl
              rw [hne] at hro
              have HF : Hid (sameL l m = false) := by
                have q : sameL l m = false := by
                  refine sameL_no fun k => ?_
                  rw [k] at C
                  have := C.out.1.symm.trans C.out.2
                  exact hxy (Option.some.inj this)
                exact q
              clear hxy hne
              unfold rowv at hro
              generalize r.par.length = x0 at *
              generalize r.tree = x1 at *
              generalize r.gen = x2 at *
              generalize r.state = x3 at *
              generalize r.bits = x4 at *
              generalize t.par.length = y0 at *
              generalize t.tree = y1 at *
              generalize t.gen = y2 at *
              generalize t.state = y3 at *
              generalize t.bits = y4 at *
              go_wp2
              go_region_with (go_at_call 67; (with_reducible refine (hro _ (Turned.drew _ _)).mono ?_); rintro e w2 ⟨rfl, ht2⟩)
              all_goals go_wp2
              all_goals go_ret
              all_goals exact ⟨by first | rfl | (rw [E.out, HF.out]; rfl) | (rw [HF.out]; simp) , T.out.draw.trans ht2 fun _ _ q => q⟩
          · have HF : Hid (sameL l m = true) := by
              have q : sameL l m = true := by
                refine sameL_yes ?_
                have := N.out
                rw [List.take_of_length_le (by have := HL.out; omega), List.take_of_length_le (by have := HL.out; have := HLM.out; omega)] at this
                exact this
              exact q
            go_wp2
            go_ret
            exact ⟨by first | rfl | (rw [HF.out, e1.out]; rfl), T.out⟩
      · have hq := int_neb (L : Int) (M : Int) (by omega)
        have hq' := int_bne2 (L : Int) (M : Int) (by omega)
        have HF : Hid (sameL l m = false) := ROWS.out hLM
        clear hLM HL HA HB ROWS
        go_enter Try.func33, Try.ntmps33
        go_wp2
        go_ret
        exact ⟨by first | rfl | (rw [HF.out, e1.out]; rfl), ((Turned.refl _ _).new _).new _⟩
  · have d1 := int_neb b1 b2 h1
    have d1' := int_bne2 b1 b2 h1
    have e1 : Hid (decide (b1 = b2) = false) := decide_eq_false h1
    clear h1 heq HA HB HL ROWS
    go_enter Try.func33, Try.ntmps33
    go_wp2
    go_ret
    exact ⟨by first | rfl | (rw [e1.out]; rfl), ((Turned.refl _ _).new _).new _⟩

end Go.Proofs.Ytfeljngmidhajaa
