/- Lists held against each other: the walks of SameList, of a tree's Same. -/
import Derived.Test.YteblabpplaaddaaGreatDoorPb
import Derived.Deep.LoopGhost
set_option linter.unusedVariables false
set_option linter.unusedSimpArgs false
namespace Go.Mine
/-- v is a slice of n elements (size cells each) that reads as the cells xs, wherever it lies; its row, where it has one, is one of S -/
def Rd (w : World) (S : Nat → Prop) (size : Nat) (v : Value) (xs : List Value) (n : Nat) : Prop :=
  xs.length = n * size ∧ ∃ a cap, v = .slice a n cap ∧ n ≤ cap ∧ cap ≤ maxLen ∧ (0 < n → ∃ g off, a = some ⟨g, off, none⟩ ∧ S g ∧ g < w.heap.size ∧ ∀ j, j < n * size → w.cell? ⟨g, off + j, none⟩ = xs[j]?)
theorem Sl.rd {w : World} {S : Nat → Prop} {e : TypeId} {size : Nat} {v : Value} {xs : List Value} {n : Nat} (h : Sl w S e size v xs n) : Rd w S size v xs n := by
  refine ⟨h.1, ?_⟩
  obtain ⟨a, cap, rfl, h1, h2⟩ := h.value
  refine ⟨a, cap, rfl, h1, h2, fun q => ?_⟩
  obtain ⟨g, off, cap', hv, hS, -, -, hc, -, hlt⟩ := h.opens q
  injection hv with hv
  exact ⟨g, off, hv, hS, hlt, hc⟩
theorem Rd.turned {w w' : World} {S T : Nat → Prop} {size : Nat} {v : Value} {xs : List Value} {n : Nat} (h : Rd w S size v xs n) (ht : Turned T w w') (hS : ∀ b, S b → ¬ T b) : Rd w' S size v xs n := by
  obtain ⟨h1, a, cap, h2, h3, h4, h5⟩ := h
  refine ⟨h1, a, cap, h2, h3, h4, fun q => ?_⟩
  obtain ⟨g, off, rfl, hg, hl, hc⟩ := h5 q
  refine ⟨g, off, rfl, hg, by have := ht.size; omega, fun j hj => ?_⟩
  rw [World.cell?_of_block (w' := w') (ht.block g hl (hS g hg))]
  exact hc j hj
theorem Rd.widen {w : World} {S T : Nat → Prop} {size : Nat} {v : Value} {xs : List Value} {n : Nat} (h : Rd w S size v xs n) (hS : ∀ b, S b → T b) : Rd w T size v xs n := by
  obtain ⟨h1, a, cap, h2, h3, h4, h5⟩ := h
  refine ⟨h1, a, cap, h2, h3, h4, fun q => ?_⟩
  obtain ⟨g, off, rfl, hg, hl, hc⟩ := h5 q
  exact ⟨g, off, rfl, hS g hg, hl, hc⟩
theorem Rd.opens {w : World} {S : Nat → Prop} {size : Nat} {a : Option Addr} {cap : Nat} {xs : List Value} {n : Nat} (h : Rd w S size (.slice a n cap) xs n) (hn : 0 < n) :
    ∃ g off, a = some ⟨g, off, none⟩ ∧ g < w.heap.size ∧ ∀ j, j < n * size → w.cell? ⟨g, off + j, none⟩ = xs[j]? := by
  obtain ⟨h1, a', cap', h2, h3, h4, h5⟩ := h
  injection h2 with h2 h6 h7
  subst h2
  obtain ⟨g, off, h8, -, h9, h10⟩ := h5 hn
  exact ⟨g, off, h8, h9, h10⟩

end Go.Mine

namespace Go.Proofs.YteblabpplaaddaaGreatDoor
open Go.RowKit Go.Mine Go.Mine.Sc

theorem i_eqb (x y : Int) (h : x = y) : (x == y) = true := by simpa using h
theorem i_neb (x y : Int) (h : x ≠ y) : (x == y) = false := by simpa using h
theorem hidS {p : Prop} (h : p) : Hid p := h


def EqR {α : Type} (l m : List α) (w : World) (g : Nat) (i : Value) (wr : World) : Prop := ∃ j : Nat, j + g = l.length ∧ i = .int .i64 (j : Nat) ∧ l.take j = m.take j ∧ Turned (fun _ => False) w wr

theorem ints_rd {W : World} {S : Nat → Prop} {a : Option Addr} {cap : Nat} {l : List Int} (h : Rd W S 1 (.slice a l.length cap) (icells l) l.length) (j : Nat) (x : Int) (hx : l[j]? = some x) :
    ∃ g off, a = some ⟨g, off, none⟩ ∧ g < W.heap.size ∧ W.cell? ⟨g, off + j, none⟩ = some (.int .i64 x) := by
  have hj := (List.getElem?_eq_some_iff.1 hx).1
  obtain ⟨g, off, hv, hlt, hc⟩ := h.opens (by omega)
  refine ⟨g, off, hv, hlt, ?_⟩
  rw [hc j (by omega)]
  simp [icells, hx]
theorem tcells_at : ∀ (l : List (B × Int)) (j : Nat) (x : B) (n : Int), l[j]? = some (x, n) → (tcells l)[j * 2]? = some (.string (bs x)) ∧ (tcells l)[j * 2 + 1]? = some (.int .u32 n)
  | [], j, x, n, h => by simp at h
  | p :: l, 0, x, n, h => by
    simp at h
    subst h
    exact ⟨rfl, rfl⟩
  | p :: l, j + 1, x, n, h => by
    have := tcells_at l j x n (by simpa using h)
    rw [Nat.add_mul, Nat.one_mul, Nat.add_right_comm (j * 2) 2 1]
    exact this
theorem ents_rd {W : World} {S : Nat → Prop} {a : Option Addr} {cap : Nat} {l : List (B × Int)} (h : Rd W S 2 (.slice a l.length cap) (tcells l) l.length) (j : Nat) (x : B) (n : Int) (hx : l[j]? = some (x, n)) :
    ∃ g off, a = some ⟨g, off, none⟩ ∧ g < W.heap.size ∧ W.cell? ⟨g, off + j * 2, none⟩ = some (.string (bs x)) ∧ W.cell? ⟨g, off + j * 2 + 1, none⟩ = some (.int .u32 n) := by
  have hj := (List.getElem?_eq_some_iff.1 hx).1
  obtain ⟨g, off, hv, hlt, hc⟩ := h.opens (by omega)
  have ht := tcells_at l j x n hx
  exact ⟨g, off, hv, hlt, by rw [hc (j * 2) (by omega)]; exact ht.1, by rw [Nat.add_assoc, hc (j * 2 + 1) (by omega)]; exact ht.2⟩
theorem rd_len {W : World} {S : Nat → Prop} {k : Nat} {a : Option Addr} {n cap : Nat} {xs : List Value} (h : Rd W S k (.slice a n cap) xs n) : n ≤ 9223372036854775807 := by
  obtain ⟨-, a', cap', hv, h1, h2, -⟩ := h
  simp only [maxLen] at h2
  omega

theorem ints_cell {W : World} {S : Nat → Prop} {a : Option Addr} {cap : Nat} {l : List Int} (h : Sl W S 3 1 (.slice a l.length cap) (icells l) l.length) (j : Nat) (x : Int) (hx : l[j]? = some x) :
    ∃ g off, a = some ⟨g, off, none⟩ ∧ g < W.heap.size ∧ W.cell? ⟨g, off + j, none⟩ = some (.int .i64 x) := ints_rd h.rd j x hx
theorem ents_cell {W : World} {S : Nat → Prop} {a : Option Addr} {cap : Nat} {l : List (B × Int)} (h : Sl W S 54 2 (.slice a l.length cap) (tcells l) l.length) (j : Nat) (x : B) (n : Int) (hx : l[j]? = some (x, n)) :
    ∃ g off, a = some ⟨g, off, none⟩ ∧ g < W.heap.size ∧ W.cell? ⟨g, off + j * 2, none⟩ = some (.string (bs x)) ∧ W.cell? ⟨g, off + j * 2 + 1, none⟩ = some (.int .u32 n) := ents_rd h.rd j x n hx
theorem sl_len {W : World} {S : Nat → Prop} {e : TypeId} {k : Nat} {a : Option Addr} {n cap : Nat} {xs : List Value} (h : Sl W S e k (.slice a n cap) xs n) : n ≤ 9223372036854775807 := rd_len h.rd

set_option maxRecDepth 100000 in
set_option maxHeartbeats 1000000 in
theorem sameList_any (S1 S2 : Nat → Prop) (a b : Option Addr) (cap cap2 : Nat) (l m : List Int) (w : World) (ha : Rd w S1 1 (.slice a l.length cap) (icells l) l.length) (hb : Rd w S2 1 (.slice b m.length cap2) (icells m) m.length) :
    Calls Tryz.prog 59 #[.slice a l.length cap, .slice b m.length cap2] w fun e w' => e = .returned (.bool (decide (l = m))) ∧ Turned (fun _ => False) w w' := by
  have HA : Hid (Rd w S1 1 (.slice a l.length cap) (icells l) l.length) := ha
  have HB : Hid (Rd w S2 1 (.slice b m.length cap2) (icells m) m.length) := hb
  obtain ⟨L, hL⟩ : ∃ L, L = l.length := ⟨_, rfl⟩
  obtain ⟨M, hM⟩ : ∃ M, M = m.length := ⟨_, rfl⟩
  have HL : Hid (L = l.length ∧ M = m.length) := ⟨hL, hM⟩
  have hcap := rd_len ha
  have hcap2 := rd_len hb
  rw [← hL] at hcap
  rw [← hM] at hcap2
  rw [← hL, ← hM]
  by_cases hLM : L = M
  · have hq := i_eqb (L : Int) (M : Int) (by omega)
    have HLM : Hid (L = M) := hLM
    clear ha hb hL hM hLM
    have HS : Hid (EqR l m w L (.int .i64 0) w) := ⟨0, by rw [HL.out.1, Nat.zero_add], rfl, rfl, Turned.refl _ _⟩
    go_enter Tryz.func59, Tryz.ntmps59
    go_wp2
    go_loopg [5] L (fun g i wr => EqR l m w g i wr)
    case atStart => exact HS.out
    case round =>
      obtain ⟨j, hjg, rfl, hno, ht⟩ := hrel
      have N : Hid (l.take j = m.take j) := hno
      have T : Hid (Turned (fun _ => False) w wr) := ht
      have G : Hid (j + gk = l.length) := hjg
      clear hno ht hjg HS
      by_cases hlt : j < L
      · have hlt2 : j < M := by have := HLM.out; omega
        obtain ⟨x, hx⟩ : ∃ x, l[j]? = some x := ⟨_, List.getElem?_eq_getElem (by rw [← HL.out.1]; exact hlt)⟩
        obtain ⟨y, hy⟩ : ∃ y, m[j]? = some y := ⟨_, List.getElem?_eq_getElem (by rw [← HL.out.2]; exact hlt2)⟩
        obtain ⟨g1, o1, rfl, hg1, c1⟩ := ints_rd (HA.out.turned T.out fun _ _ q => q) j x hx
        obtain ⟨g2, o2, rfl, hg2, c2⟩ := ints_rd (HB.out.turned T.out fun _ _ q => q) j y hy
        have C : Hid (l[j]? = some x ∧ m[j]? = some y) := ⟨hx, hy⟩
        clear hx hy
        by_cases hxy : x = y
        · subst hxy
          have hd := i_eqb x x rfl
          go_wp2
          go_region
          all_goals go_wp2
          all_goals
            go_roundg (gk - 1)
            case measure => have := G.out; have := HL.out; omega
            case rel =>
              refine ⟨j + 1, by have := G.out; have := HL.out; omega, by simp, ?_, T.out.draw⟩
              rw [List.take_add_one, List.take_add_one, C.out.1, C.out.2, N.out]
        · have hd := i_neb x y hxy
          have HF : Hid (decide (l = m) = false) := hidS (decide_eq_false fun k => hxy (by
            rw [k] at C
            exact Option.some.inj (C.out.1.symm.trans C.out.2)))
          clear hxy
          go_wp2
          go_region
          all_goals go_wp2
          all_goals go_ret
          all_goals exact ⟨by rw [HF.out]; rfl, T.out.draw⟩
      · have HF : Hid (decide (l = m) = true) := hidS (by
          apply decide_eq_true
          have := N.out
          rw [List.take_of_length_le (by have := HL.out; omega), List.take_of_length_le (by have := HL.out; have := HLM.out; omega)] at this
          exact this)
        go_wp2
        go_ret
        exact ⟨by rw [HF.out]; rfl, T.out⟩
  · have hq := i_neb (L : Int) (M : Int) (by omega)
    have HF : Hid (decide (l = m) = false) := hidS (decide_eq_false fun k => hLM (by rw [hL, hM, k]))
    clear ha hb hL hM hLM HL HA HB
    go_enter Tryz.func59, Tryz.ntmps59
    go_wp2
    go_ret
    exact ⟨by rw [HF.out]; rfl, Turned.refl _ _⟩

set_option maxRecDepth 100000 in
set_option maxHeartbeats 1000000 in
theorem sameTree_any (S1 S2 : Nat → Prop) (a b : Option Addr) (cap cap2 : Nat) (l m : List (B × Int)) (w : World) (ha : Rd w S1 2 (.slice a l.length cap) (tcells l) l.length) (hb : Rd w S2 2 (.slice b m.length cap2) (tcells m) m.length) :
    Calls Tryz.prog 60 #[.slice a l.length cap, .slice b m.length cap2] w fun e w' => e = .returned (.bool (decide (l = m))) ∧ Turned (fun _ => False) w w' := by
  have HA : Hid (Rd w S1 2 (.slice a l.length cap) (tcells l) l.length) := ha
  have HB : Hid (Rd w S2 2 (.slice b m.length cap2) (tcells m) m.length) := hb
  obtain ⟨L, hL⟩ : ∃ L, L = l.length := ⟨_, rfl⟩
  obtain ⟨M, hM⟩ : ∃ M, M = m.length := ⟨_, rfl⟩
  have HL : Hid (L = l.length ∧ M = m.length) := ⟨hL, hM⟩
  have hcap := rd_len ha
  have hcap2 := rd_len hb
  rw [← hL] at hcap
  rw [← hM] at hcap2
  rw [← hL, ← hM]
  by_cases hLM : L = M
  · have hq := i_eqb (L : Int) (M : Int) (by omega)
    have HLM : Hid (L = M) := hLM
    clear ha hb hL hM hLM
    have HS : Hid (EqR l m w L (.int .i64 0) w) := ⟨0, by rw [HL.out.1, Nat.zero_add], rfl, rfl, Turned.refl _ _⟩
    go_enter Tryz.func60, Tryz.ntmps60
    go_wp2
    go_loopg [5] L (fun g i wr => EqR l m w g i wr)
    case atStart => exact HS.out
    case round =>
      obtain ⟨j, hjg, rfl, hno, ht⟩ := hrel
      have N : Hid (l.take j = m.take j) := hno
      have T : Hid (Turned (fun _ => False) w wr) := ht
      have G : Hid (j + gk = l.length) := hjg
      clear hno ht hjg HS
      by_cases hlt : j < L
      · have hlt2 : j < M := by have := HLM.out; omega
        obtain ⟨⟨x, n⟩, hx⟩ : ∃ x, l[j]? = some x := ⟨_, List.getElem?_eq_getElem (by rw [← HL.out.1]; exact hlt)⟩
        obtain ⟨⟨y, k⟩, hy⟩ : ∃ y, m[j]? = some y := ⟨_, List.getElem?_eq_getElem (by rw [← HL.out.2]; exact hlt2)⟩
        obtain ⟨g1, o1, rfl, hg1, c1, c1'⟩ := ents_rd (HA.out.turned T.out fun _ _ q => q) j x n hx
        obtain ⟨g2, o2, rfl, hg2, c2, c2'⟩ := ents_rd (HB.out.turned T.out fun _ _ q => q) j y k hy
        have C : Hid (l[j]? = some (x, n) ∧ m[j]? = some (y, k)) := ⟨hx, hy⟩
        clear hx hy
        by_cases hxy : x = y
        · subst hxy
          have hd : ((bs x).toList == (bs x).toList) = true := by simp
          by_cases hnk : n = k
          · subst hnk
            have hd2 := i_eqb n n rfl
            generalize bs x = z at *
            go_wp2
            go_region
            all_goals go_wp2
            all_goals
              go_roundg (gk - 1)
              case measure => have := G.out; have := HL.out; omega
              case rel =>
                refine ⟨j + 1, by have := G.out; have := HL.out; omega, by simp, ?_, T.out.draw⟩
                rw [List.take_add_one, List.take_add_one, C.out.1, C.out.2, N.out]
          · have hd2 := i_neb n k hnk
            have HF : Hid (decide (l = m) = false) := hidS (decide_eq_false fun q => hnk (by
              rw [q] at C
              have := Option.some.inj (C.out.1.symm.trans C.out.2)
              exact congrArg Prod.snd this))
            generalize bs x = z at *
            clear hnk
            go_wp2
            go_region
            all_goals go_wp2
            all_goals go_ret
            all_goals exact ⟨by rw [HF.out]; rfl, T.out.draw⟩
        · have hd := ba_ne2 (bs x) (bs y) fun q => hxy (bs_inj q)
          have HF : Hid (decide (l = m) = false) := hidS (decide_eq_false fun q => hxy (by
            rw [q] at C
            have := Option.some.inj (C.out.1.symm.trans C.out.2)
            exact congrArg Prod.fst this))
          generalize bs x = z at *
          generalize bs y = z2 at *
          clear hxy
          go_wp2
          go_region
          all_goals go_wp2
          all_goals go_ret
          all_goals exact ⟨by rw [HF.out]; rfl, T.out.draw⟩
      · have HF : Hid (decide (l = m) = true) := hidS (by
          apply decide_eq_true
          have := N.out
          rw [List.take_of_length_le (by have := HL.out; omega), List.take_of_length_le (by have := HL.out; have := HLM.out; omega)] at this
          exact this)
        go_wp2
        go_ret
        exact ⟨by rw [HF.out]; rfl, T.out⟩
  · have hq := i_neb (L : Int) (M : Int) (by omega)
    have HF : Hid (decide (l = m) = false) := hidS (decide_eq_false fun k => hLM (by rw [hL, hM, k]))
    clear ha hb hL hM hLM HL HA HB
    go_enter Tryz.func60, Tryz.ntmps60
    go_wp2
    go_ret
    exact ⟨by rw [HF.out]; rfl, Turned.refl _ _⟩
end Go.Proofs.YteblabpplaaddaaGreatDoor
