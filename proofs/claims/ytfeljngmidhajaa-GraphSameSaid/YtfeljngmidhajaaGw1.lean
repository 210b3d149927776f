/- Graph files: the walks of goodFilter, slices.Index and slices.Contains on ints. -/
import Derived.Test.YtfeljngmidhajaaGp
import Derived.Test.YtfeljngmidhajaaOpen
namespace Go.Proofs.Ytfeljngmidhajaa
open Go.RowKit Go.Mine

theorem int_eqb (x y : Int) (h : x = y) : (x == y) = true := by simp [h]
theorem int_neb (x y : Int) (h : x ≠ y) : (x == y) = false := by simp [h]
theorem ba_nonempty (s : ByteArray) (h : s.size ≠ 0) : (s.toList == []) = false ∧ s.toList.isEmpty = false := by
  have h2 : s ≠ ⟨#[]⟩ := fun q => h (by rw [q]; rfl)
  have h3 := ba_ne s [] h2
  refine ⟨h3, ?_⟩
  cases hl : s.toList with
  | nil => rw [hl] at h3; simp at h3
  | cons => rfl
theorem ba_empty (s : ByteArray) (h : s.size = 0) : s = ⟨#[]⟩ := by
  apply ByteArray.ext
  exact Array.eq_empty_of_size_eq_zero h

set_option maxRecDepth 100000 in
theorem goodFilter_any (state : Int) (bits : ByteArray) (w : World) (hs : bits.size ≤ 140737488355328) :
    Calls Try.prog 80 #[.agg #[.int .i64 state, .string bits]] w fun e w' => e = .returned (.bool (goodF state bits)) ∧ Turned (fun _ => False) w w' := by
  by_cases h0 : state = 0
  · subst h0
    have HR : Hid (goodF 0 bits = decide (bits.size = 0)) := by have : goodF 0 bits = decide (bits.size = 0) := rfl; exact this
    by_cases hb : bits.size = 0
    · obtain rfl := ba_empty bits hb
      go_enter Try.func80, Try.ntmps80
      go_wp2
      go_ret
      exact ⟨rfl, Turned.alloc _ _ _⟩
    · obtain ⟨e1, e2⟩ := ba_nonempty bits hb
      have HB : Hid (bits.size ≠ 0) := hb
      clear hb hs
      go_enter Try.func80, Try.ntmps80
      go_wp2
      go_ret
      exact ⟨by rw [HR.out, decide_eq_false HB.out]; rfl, Turned.alloc _ _ _⟩
  · by_cases h2 : state = 2
    · subst h2
      have HR : Hid (goodF 2 bits = decide (bits.size = 0)) := by have : goodF 2 bits = decide (bits.size = 0) := rfl; exact this
      by_cases hb : bits.size = 0
      · obtain rfl := ba_empty bits hb
        go_enter Try.func80, Try.ntmps80
        go_wp2
        go_ret
        exact ⟨rfl, Turned.alloc _ _ _⟩
      · obtain ⟨e1, e2⟩ := ba_nonempty bits hb
        have HB : Hid (bits.size ≠ 0) := hb
        clear hb hs
        go_enter Try.func80, Try.ntmps80
        go_wp2
        go_ret
        exact ⟨by rw [HR.out, decide_eq_false HB.out]; rfl, Turned.alloc _ _ _⟩
    · by_cases h1 : state = 1
      · subst h1
        have HR : Hid (goodF 1 bits = decide (1 ≤ bits.size ∧ bits.size ≤ 4096)) := by have : goodF 1 bits = decide (1 ≤ bits.size ∧ bits.size ≤ 4096) := rfl; exact this
        by_cases hb : bits.size = 0
        · obtain rfl := ba_empty bits hb
          go_enter Try.func80, Try.ntmps80
          go_wp2
          go_ret
          exact ⟨rfl, Turned.alloc _ _ _⟩
        · obtain ⟨e1, e2⟩ := ba_nonempty bits hb
          by_cases hm : bits.size ≤ 4096
          · have HX : Hid (decide (1 ≤ bits.size ∧ bits.size ≤ 4096) = true) := by
              have : decide (1 ≤ bits.size ∧ bits.size ≤ 4096) = true := by simp; omega
              exact this
            have d1 : decide ((bits.size : Int) ≤ 4096) = true := by simp; omega
            have d2 : decide (bits.size ≤ 4096) = true := by simp; omega
            clear hb hs hm
            go_enter Try.func80, Try.ntmps80
            go_wp2
            go_ret
            exact ⟨by rw [HR.out, HX.out]; rfl, Turned.alloc _ _ _⟩
          · have HX : Hid (decide (1 ≤ bits.size ∧ bits.size ≤ 4096) = false) := by
              have : decide (1 ≤ bits.size ∧ bits.size ≤ 4096) = false := by simp; omega
              exact this
            have d1 : decide ((bits.size : Int) ≤ 4096) = false := by simp; omega
            have d2 : decide (bits.size ≤ 4096) = false := by simp; omega
            clear hb hs hm
            go_enter Try.func80, Try.ntmps80
            go_wp2
            go_ret
            exact ⟨by rw [HR.out, HX.out]; rfl, Turned.alloc _ _ _⟩
      · have HR : Hid (goodF state bits = false) := by
          have : goodF state bits = false := by unfold goodF; rw [if_neg (by omega), if_neg h1]
          exact this
        have d0 := int_neb _ _ h0
        have d2 := int_neb _ _ h2
        have d1 := int_neb _ _ h1
        clear h0 h1 h2 hs
        go_enter Try.func80, Try.ntmps80
        go_wp2
        go_ret
        exact ⟨by rw [HR.out]; rfl, Turned.alloc _ _ _⟩

def IxRel (w : World) (l : List Int) (x : Int) (g : Nat) (i : Value) (wr : World) : Prop :=
  ∃ j : Nat, j + g = l.length ∧ i = .int .i64 j ∧ x ∉ l.take j ∧ w = wr

def IxPost (l : List Int) (x : Int) (w : World) (e : Ending) (w' : World) : Prop :=
  w = w' ∧ ((x ∉ l ∧ e = .returned (.int .i64 (-1))) ∨ (x ∈ l ∧ ∃ j : Nat, e = .returned (.int .i64 j)))

set_option maxRecDepth 100000 in
theorem index_ints (S : Nat → Prop) (a : Option Addr) (cap : Nat) (l : List Int) (x : Int) (w : World) (h : Ints w S a cap l) :
    Calls Try.prog 110 #[.slice a l.length cap, .int .i64 x] w (IxPost l x w) := by
  have H : Hid (Ints w S a cap l) := h
  obtain ⟨L, hL⟩ : ∃ L, L = l.length := ⟨_, rfl⟩
  have HL : Hid (L = l.length) := hL
  rw [← hL]
  have hcap : Hid (L ≤ 9223372036854775807) := (by rw [hL]; have := h.1; have := h.2.1; simp only [maxLen] at this; omega : L ≤ 9223372036854775807)
  clear h hL
  go_enter Try.func110, Try.ntmps110
  go_wp2
  have HS : Hid (IxRel w l x L (.int .i64 0) w) := ⟨0, by rw [HL.out, Nat.zero_add], rfl, by simp, rfl⟩
  go_loopg [8] L (fun g i wr => IxRel w l x g i wr)
  case atStart => exact HS.out
  case round =>
    obtain ⟨j, hjg, rfl, hno, rfl⟩ := hrel
    have N : Hid (x ∉ l.take j) := hno
    have G : Hid (j + gk = l.length) := hjg
    clear hno hjg HS
    by_cases hlt : j < L
    · obtain ⟨c, hc⟩ : ∃ c, l[j]? = some c := ⟨_, List.getElem?_eq_getElem (by rw [← HL.out]; exact hlt)⟩
      obtain ⟨b, off, rfl, -, hbw, c0⟩ := ints_at H.out j c hc
      have HW : Hid (wrap64 ((j : Int) + 1) = ((j + 1 : Nat) : Int)) := (by have := hcap.out; simp [wrap64]; omega : wrap64 ((j : Int) + 1) = ((j + 1 : Nat) : Int))
      have C : Hid (l[j]? = some c) := hc
      clear hc
      by_cases hid : x = c
      · subst hid
        go_wp2
        go_ret
        exact ⟨rfl, .inr ⟨List.mem_of_getElem? C.out, j, rfl⟩⟩
      · have d0 := int_neb _ _ hid
        have HI : Hid (x ≠ c) := hid
        clear hid
        go_wp2
        go_roundg (gk - 1)
        case measure => have := G.out; have := HL.out; omega
        case rel =>
          refine ⟨j + 1, by have := G.out; have := HL.out; omega, by rw [HW.out], ?_, rfl⟩
          rw [List.take_add_one, C.out]
          simp only [Option.toList_some, List.mem_append, List.mem_singleton]
          exact fun q => q.elim N.out HI.out
    · go_wp2
      go_ret
      refine ⟨rfl, .inl ⟨fun q => N.out ?_, rfl⟩⟩
      rw [List.take_of_length_le (by have := HL.out; omega)]
      exact q

set_option maxRecDepth 100000 in
theorem contains_ints (S : Nat → Prop) (a : Option Addr) (cap : Nat) (l : List Int) (x : Int) (w : World) (h : Ints w S a cap l) :
    Calls Try.prog 79 #[.slice a l.length cap, .int .i64 x] w fun e w' => e = .returned (.bool (decide (x ∈ l))) ∧ w = w' := by
  have hi := index_ints S a cap l x w h
  clear h
  generalize hb : decide (x ∈ l) = b
  have B : Hid (decide (x ∈ l) = b) := hb
  clear hb
  go_enter Try.func79, Try.ntmps79
  go_wp2_with fail
  refine hi.mono ?_
  rintro e w1 ⟨rfl, ⟨h1, rfl⟩ | ⟨h1, j, rfl⟩⟩
  · obtain rfl : false = b := by rw [← B.out]; simp [h1]
    clear h1
    go_wp2
    go_ret
    exact ⟨rfl, rfl⟩
  · obtain rfl : true = b := by rw [← B.out]; simp [h1]
    have hj : decide ((0 : Int) ≤ (j : Int)) = true := by simp
    clear h1
    go_wp2
    go_ret
    exact ⟨rfl, rfl⟩
end Go.Proofs.Ytfeljngmidhajaa
