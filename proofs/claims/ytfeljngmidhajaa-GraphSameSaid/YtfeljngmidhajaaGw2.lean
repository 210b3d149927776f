/- Graph files: the walk of goodRow. -/
import Derived.Test.YtfeljngmidhajaaGw1
namespace Go.Proofs.Ytfeljngmidhajaa
open Go.RowKit Go.Mine

theorem info3 : (Try.prog.info? 3).map (fun i => (i.zero, i.size, i.bytes)) = some (some (.int .i64 0), 1, 8) := by kernel_rfl
theorem ints_to {w : World} {S : Nat → Prop} {a : Option Addr} {cap : Nat} {l : List Int} (h : Ints w S a cap l) (j : Nat) (hj : j ≤ l.length) (W : World) :
    (Instr.slice 57 (.slice a l.length cap) none (some (.int .i64 j)) none).run Try.prog W = .ok (.slice a j cap) W := by
  obtain ⟨i, hi, hz0, hz1, hz2⟩ := info_parts info3
  have hjc : j ≤ cap := by have := h.1; omega
  simp [Instr.slice, Instr.sliceBounds, Instr.sliceBound, asIntOf, run_underlying Try.underlying57, sizeOf, typeInfo, hi, hjc, Result.andThen]
  intro _
  cases a with
  | none => rfl
  | some ad => simp [Addr.add]

def GrowRel (l : List Int) (n : Int) (w : World) (g : Nat) (i : Value) (wr : World) : Prop :=
  ∃ j : Nat, j + g = l.length ∧ i = .int .i64 j ∧ goodP n (l.take j) ∧ w = wr

theorem goodP_succ {n : Int} {l : List Int} {j : Nat} {p : Int} (hp : l[j]? = some p) (h : goodP n (l.take j)) (h1 : 0 ≤ p) (h2 : p < n) (h3 : p ∉ l.take j) : goodP n (l.take (j + 1)) := by
  intro i q hq
  rw [List.getElem?_take] at hq
  split at hq
  · rename_i hi
    by_cases hij : i = j
    · subst hij
      rw [hp] at hq
      obtain rfl := Option.some.inj hq
      rw [List.take_take, Nat.min_eq_left (by omega)]
      exact ⟨h1, h2, h3⟩
    · have := h i q (by rw [List.getElem?_take, if_pos (by omega)]; exact hq)
      rw [List.take_take, Nat.min_eq_left (by omega)] at this ⊢
      exact this
  · simp at hq
theorem goodP_not {n : Int} {l : List Int} {j : Nat} {p : Int} (hp : l[j]? = some p) (h : p < 0 ∨ n ≤ p ∨ p ∈ l.take j) : ¬ goodP n l := fun q => by
  obtain ⟨q1, q2, q3⟩ := q j p hp
  rcases h with h | h | h
  · omega
  · omega
  · exact q3 h

set_option maxRecDepth 100000 in
set_option maxHeartbeats 2000000 in
theorem goodRow_any (S : Nat → Prop) (a : Option Addr) (cap : Nat) (r : Rw) (n : Int) (w : World) (h : Ints w S a cap r.par) (hok : RwOk r) :
    Calls Try.prog 55 #[rowv a cap r, .int .i64 n] w fun e w' => e = .returned (.bool (goodRB r n)) ∧ Turned (fun _ => False) w w' := by
  obtain ⟨L, hL⟩ : ∃ L, L = r.par.length := ⟨_, rfl⟩
  have HL : Hid (L = r.par.length) := hL
  have hgr : ¬ (r.par.length ≤ 16 ∧ 0 ≤ r.tree ∧ r.tree < 65536 ∧ 1 ≤ r.gen ∧ r.gen ≤ 1023) → goodRB r n = false := fun q => goodRB_false fun g => q ⟨g.1, g.2.1, g.2.2.1, g.2.2.2.1, g.2.2.2.2.1⟩
  unfold rowv
  rw [← hL] at hgr ⊢
  have hLm : L ≤ 9223372036854775807 := by rw [hL]; have := h.1; have := h.2.1; simp only [maxLen] at this; omega
  have HLm : Hid (L ≤ 9223372036854775807) := hLm
  have HI : Hid (Ints w S a cap r.par) := h
  have hfl := fun W => goodFilter_any r.state r.bits W hok.2.2.2
  clear h hok hL
  by_cases h1 : 16 < L
  · have HR : Hid (goodRB r n = false) := hgr (by omega)
    have d1 : decide ((16 : Int) < (L : Int)) = true := by simp; omega
    have d2 : decide (16 < L) = true := by simp; omega
    generalize goodRB r n = R at *
    generalize r.tree = tree at *
    generalize r.gen = gen at *
    generalize r.state = state at *
    generalize r.bits = bits at *
    clear h1 hgr hfl HL HI
    go_enter Try.func55, Try.ntmps55
    go_wp2
    go_ret
    exact ⟨by rw [HR.out]; rfl, Turned.alloc _ _ _⟩
  · have d1 : decide ((16 : Int) < (L : Int)) = false := by simp; omega
    have d2 : decide (16 < L) = false := by simp; omega
    by_cases h2 : r.tree < 0
    · have HR : Hid (goodRB r n = false) := hgr (by omega)
      have d3 : decide (r.tree < 0) = true := by simp; omega
      generalize goodRB r n = R at *
      generalize r.tree = tree at *
      generalize r.gen = gen at *
      generalize r.state = state at *
      generalize r.bits = bits at *
      clear h1 h2 hgr hfl HL HI
      go_enter Try.func55, Try.ntmps55
      go_wp2
      go_ret
      exact ⟨by rw [HR.out]; rfl, Turned.alloc _ _ _⟩
    · have d3 : decide (r.tree < 0) = false := by simp; omega
      by_cases h3 : 65536 ≤ r.tree
      · have HR : Hid (goodRB r n = false) := hgr (by omega)
        have d4 : decide (65536 ≤ r.tree) = true := by simp; omega
        generalize goodRB r n = R at *
        generalize r.tree = tree at *
        generalize r.gen = gen at *
        generalize r.state = state at *
        generalize r.bits = bits at *
        clear h1 h2 h3 hgr hfl HL HI
        go_enter Try.func55, Try.ntmps55
        go_wp2
        go_ret
        exact ⟨by rw [HR.out]; rfl, Turned.alloc _ _ _⟩
      · have d4 : decide (65536 ≤ r.tree) = false := by simp; omega
        by_cases h4 : r.gen < 1
        · have HR : Hid (goodRB r n = false) := hgr (by omega)
          have d5 : decide (r.gen < 1) = true := by simp; omega
          generalize goodRB r n = R at *
          generalize r.tree = tree at *
          generalize r.gen = gen at *
          generalize r.state = state at *
          generalize r.bits = bits at *
          clear h1 h2 h3 h4 hgr hfl HL HI
          go_enter Try.func55, Try.ntmps55
          go_wp2
          go_ret
          exact ⟨by rw [HR.out]; rfl, Turned.alloc _ _ _⟩
        · have d5 : decide (r.gen < 1) = false := by simp; omega
          by_cases h5 : 1023 < r.gen
          · have HR : Hid (goodRB r n = false) := hgr (by omega)
            have d6 : decide (1023 < r.gen) = true := by simp; omega
            generalize goodRB r n = R at *
            generalize r.tree = tree at *
            generalize r.gen = gen at *
            generalize r.state = state at *
            generalize r.bits = bits at *
            clear h1 h2 h3 h4 h5 hgr hfl HL HI
            go_enter Try.func55, Try.ntmps55
            go_wp2
            go_ret
            exact ⟨by rw [HR.out]; rfl, Turned.alloc _ _ _⟩
          · have d6 : decide (1023 < r.gen) = false := by simp; omega
            have OK : Hid (r.par.length ≤ 16 ∧ 0 ≤ r.tree ∧ r.tree < 65536 ∧ 1 ≤ r.gen ∧ r.gen ≤ 1023) := by
              have := HL.out
              have q : r.par.length ≤ 16 ∧ 0 ≤ r.tree ∧ r.tree < 65536 ∧ 1 ≤ r.gen ∧ r.gen ≤ 1023 := by omega
              exact q
            have NOT : Hid (¬ goodP n r.par → goodRB r n = false) := by
              have q : ¬ goodP n r.par → goodRB r n = false := fun k => goodRB_false fun g => k g.2.2.2.2.2.1
              exact q
            have YES : Hid (goodP n r.par → goodRB r n = goodF r.state r.bits) := by
              have q : goodP n r.par → goodRB r n = goodF r.state r.bits := fun k => by
                rw [Bool.eq_iff_iff, goodRB_iff]
                obtain ⟨o1, o2, o3, o4, o5⟩ := OK.out
                exact ⟨fun g => g.2.2.2.2.2.2, fun g => ⟨o1, o2, o3, o4, o5, k, g⟩⟩
              exact q
            generalize goodRB r n = R at *
            generalize goodF r.state r.bits = F at *
            generalize r.tree = tree at *
            generalize r.gen = gen at *
            generalize r.state = state at *
            generalize r.bits = bits at *
            generalize hpar : r.par = par at *
            clear h1 h2 h3 h4 h5 hgr hpar
            have HS : Hid (GrowRel par n (w.alloc (.cells #[.slice a L cap, .int .i64 tree, .int .i64 gen, .int .i64 state, .string bits] 61)) L (.int .i64 0) (w.alloc (.cells #[.slice a L cap, .int .i64 tree, .int .i64 gen, .int .i64 state, .string bits] 61))) :=
              ⟨0, by rw [HL.out, Nat.zero_add], rfl, fun i p q => by simp at q, rfl⟩
            go_enter Try.func55, Try.ntmps55
            go_wp2
            go_loopg [34] L (fun g i wr => GrowRel par n (w.alloc (.cells #[.slice a L cap, .int .i64 tree, .int .i64 gen, .int .i64 state, .string bits] 61)) g i wr)
            case atStart => exact HS.out
            case round =>
              obtain ⟨j, hjg, rfl, hno, rfl⟩ := hrel
              have N : Hid (goodP n (par.take j)) := hno
              have G : Hid (j + gk = par.length) := hjg
              clear hno hjg HS
              by_cases hlt : j < L
              · obtain ⟨p, hp⟩ : ∃ p, par[j]? = some p := ⟨_, List.getElem?_eq_getElem (by rw [← HL.out]; exact hlt)⟩
                obtain ⟨b, off, rfl, hS, hbw, c0⟩ := ints_at HI.out j p hp
                have HW : Hid (wrap64 ((j : Int) + 1) = ((j + 1 : Nat) : Int)) := (by simp [wrap64]; omega : wrap64 ((j : Int) + 1) = ((j + 1 : Nat) : Int))
                have C : Hid (par[j]? = some p) := hp
                have hsl : ∀ W, (Instr.slice 57 (.slice (some ⟨b, off, none⟩) L cap) none (some (.int .i64 (j : Nat))) none).run Try.prog W = .ok (.slice (some ⟨b, off, none⟩) j cap) W := fun W => by
                  have := ints_to HI.out j (by rw [← HL.out]; omega) W
                  rw [← HL.out] at this
                  exact this
                have hcon : Calls Try.prog 79 #[.slice (some ⟨b, off, none⟩) j cap, .int .i64 p] (w.alloc (.cells #[.slice (some ⟨b, off, none⟩) L cap, .int .i64 tree, .int .i64 gen, .int .i64 state, .string bits] 61)) fun e w' => e = .returned (.bool (decide (p ∈ par.take j))) ∧ (w.alloc (.cells #[.slice (some ⟨b, off, none⟩) L cap, .int .i64 tree, .int .i64 gen, .int .i64 state, .string bits] 61)) = w' := by
                  have := contains_ints S (some ⟨b, off, none⟩) cap (par.take j) p _ ((HI.out.take j).turned (Turned.alloc (fun _ => False) w (.cells #[.slice (some ⟨b, off, none⟩) L cap, .int .i64 tree, .int .i64 gen, .int .i64 state, .string bits] 61)) fun _ _ q => q)
                  rw [List.length_take, Nat.min_eq_left (by rw [← HL.out]; omega)] at this
                  exact this
                have hne : b ≠ w.heap.size := by omega
                clear hp
                by_cases g1 : p < 0
                · have e1 : decide (p < 0) = true := by simp; omega
                  have HF : Hid (R = false) := NOT.out (goodP_not C.out (.inl g1))
                  clear g1 hcon hsl
                  go_wp2
                  go_ret
                  exact ⟨by rw [HF.out]; rfl, Turned.alloc _ _ _⟩
                · have e1 : decide (p < 0) = false := by simp; omega
                  by_cases g2 : n ≤ p
                  · have e2 : decide (n ≤ p) = true := by simp; omega
                    have HF : Hid (R = false) := NOT.out (goodP_not C.out (.inr (.inl g2)))
                    clear g1 g2 hcon hsl
                    go_wp2
                    go_ret
                    exact ⟨by rw [HF.out]; rfl, Turned.alloc _ _ _⟩
                  · have e2 : decide (n ≤ p) = false := by simp; omega
                    by_cases g3 : p ∈ par.take j
                    · have HF : Hid (R = false) := NOT.out (goodP_not C.out (.inr (.inr g3)))
                      rw [decide_eq_true g3] at hcon
                      clear g1 g2 g3
                      go_wp2_with (go_at_call 79; (with_reducible refine hcon.mono ?_); rintro e w2 ⟨rfl, rfl⟩)
                      go_ret
                      exact ⟨by rw [HF.out]; rfl, Turned.alloc _ _ _⟩
                    · rw [decide_eq_false g3] at hcon
                      have HN : Hid (goodP n (par.take (j + 1))) := goodP_succ C.out N.out (by omega) (by omega) g3
                      clear g1 g2 g3
                      go_wp2_with (go_at_call 79; (with_reducible refine hcon.mono ?_); rintro e w2 ⟨rfl, rfl⟩)
                      go_roundg (gk - 1)
                      case measure => have := G.out; have := HL.out; omega
                      case rel => exact ⟨j + 1, by have := G.out; have := HL.out; omega, by simp, HN.out, rfl⟩
              · have HF : Hid (R = F) := by
                  have q : R = F := by
                    refine YES.out ?_
                    have := N.out
                    rw [List.take_of_length_le (by have := HL.out; omega)] at this
                    exact this
                  exact q
                go_wp2_with (go_at_call 80; (with_reducible refine (hfl _).mono ?_); rintro e w2 ⟨rfl, ht2⟩)
                go_ret
                exact ⟨by rw [HF.out]; rfl, (Turned.alloc _ _ _).trans ht2 fun _ _ q => q⟩
end Go.Proofs.Ytfeljngmidhajaa
