/- Graph files: the walk of the document's goodRow. -/
import Derived.Test.YtfeljngmidhajaaGw2
namespace Go.Proofs.Ytfeljngmidhajaa
open Go.RowKit Go.Mine

def RgRel (l : List Int) (n : Int) (w : World) (cs : Array Value) (g : Nat) (i : Value) (wr : World) : Prop :=
  ∃ j : Nat, j + g = l.length ∧ i = .int .i64 j ∧ goodP n (l.take j) ∧ wr.heap[w.heap.size]? = some (.cells cs 61 (0, 0)) ∧ Turned (fun _ => False) w wr
def RkRel (l : List Int) (p : Int) (w : World) (g j : Nat) (k : Value) (wr : World) : Prop :=
  ∃ t : Nat, t + g = j ∧ k = .int .i64 t ∧ p ∉ l.take t ∧ Turned (fun _ => False) w wr

set_option maxRecDepth 100000 in
set_option maxHeartbeats 2000000 in
theorem rgoodRow_any (S : Nat → Prop) (a : Option Addr) (cap : Nat) (r : Rw) (n : Int) (w : World) (h : Ints w S a cap r.par) (hok : RwOk r) :
    Calls Try.prog 58 #[rowv a cap r, .int .i64 n] w fun e w' => e = .returned (.bool (goodRB r n)) ∧ Turned (fun _ => False) w w' := by
  obtain ⟨L, hL⟩ : ∃ L, L = r.par.length := ⟨_, rfl⟩
  have HL : Hid (L = r.par.length) := hL
  have hgr : ¬ (r.par.length ≤ 16 ∧ 0 ≤ r.tree ∧ r.tree < 65536 ∧ 1 ≤ r.gen ∧ r.gen ≤ 1023) → goodRB r n = false := fun q => goodRB_false fun g => q ⟨g.1, g.2.1, g.2.2.1, g.2.2.2.1, g.2.2.2.2.1⟩
  unfold rowv
  rw [← hL] at hgr ⊢
  have hLm : L ≤ 9223372036854775807 := by rw [hL]; have := h.1; have := h.2.1; simp only [maxLen] at this; omega
  have HLm : Hid (L ≤ 9223372036854775807) := hLm
  have HI : Hid (Ints w S a cap r.par) := h
  have HBZ : Hid (r.bits.size ≤ 140737488355328) := hok.2.2.2
  clear h hok hL
  by_cases h1 : 16 < L
  · have HR : Hid (goodRB r n = false) := hgr (by omega)
    have d1 : decide ((16 : Int) < (L : Int)) = true := by simp; omega
    have d2 : decide (16 < L) = true := by simp; omega
    generalize goodRB r n = R at *
    generalize r.tree = tree at *
    generalize r.gen = gen at *
    generalize r.state = state at *
    generalize r.bits = bits at *
    clear h1 hgr HBZ HL HI
    go_enter Try.func58, Try.ntmps58
    go_wp2
    go_ret
    exact ⟨by rw [HR.out]; rfl, Turned.alloc _ _ _⟩
  · have d1 : decide ((16 : Int) < (L : Int)) = false := by simp; omega
    have d2 : decide (16 < L) = false := by simp; omega
    by_cases h2 : r.tree < 0
    · have HR : Hid (goodRB r n = false) := hgr (by omega)
      have d3 : decide (r.tree < 0) = true := by simp; omega
      generalize goodRB r n = R at *
      generalize r.tree = tree at *
      generalize r.gen = gen at *
      generalize r.state = state at *
      generalize r.bits = bits at *
      clear h1 h2 hgr HBZ HL HI
      go_enter Try.func58, Try.ntmps58
      go_wp2
      go_ret
      exact ⟨by rw [HR.out]; rfl, Turned.alloc _ _ _⟩
    · have d3 : decide (r.tree < 0) = false := by simp; omega
      by_cases h3 : 65536 ≤ r.tree
      · have HR : Hid (goodRB r n = false) := hgr (by omega)
        have d4 : decide (65536 ≤ r.tree) = true := by simp; omega
        generalize goodRB r n = R at *
        generalize r.tree = tree at *
        generalize r.gen = gen at *
        generalize r.state = state at *
        generalize r.bits = bits at *
        clear h1 h2 h3 hgr HBZ HL HI
        go_enter Try.func58, Try.ntmps58
        go_wp2
        go_ret
        exact ⟨by rw [HR.out]; rfl, Turned.alloc _ _ _⟩
      · have d4 : decide (65536 ≤ r.tree) = false := by simp; omega
        by_cases h4 : r.gen < 1
        · have HR : Hid (goodRB r n = false) := hgr (by omega)
          have d5 : decide (r.gen < 1) = true := by simp; omega
          generalize goodRB r n = R at *
          generalize r.tree = tree at *
          generalize r.gen = gen at *
          generalize r.state = state at *
          generalize r.bits = bits at *
          clear h1 h2 h3 h4 hgr HBZ HL HI
          go_enter Try.func58, Try.ntmps58
          go_wp2
          go_ret
          exact ⟨by rw [HR.out]; rfl, Turned.alloc _ _ _⟩
        · have d5 : decide (r.gen < 1) = false := by simp; omega
          by_cases h5 : 1023 < r.gen
          · have HR : Hid (goodRB r n = false) := hgr (by omega)
            have d6 : decide (1023 < r.gen) = true := by simp; omega
            generalize goodRB r n = R at *
            generalize r.tree = tree at *
            generalize r.gen = gen at *
            generalize r.state = state at *
            generalize r.bits = bits at *
            clear h1 h2 h3 h4 h5 hgr HBZ HL HI
            go_enter Try.func58, Try.ntmps58
            go_wp2
            go_ret
            exact ⟨by rw [HR.out]; rfl, Turned.alloc _ _ _⟩
          · have d6 : decide (1023 < r.gen) = false := by simp; omega
            have OK : Hid (r.par.length ≤ 16 ∧ 0 ≤ r.tree ∧ r.tree < 65536 ∧ 1 ≤ r.gen ∧ r.gen ≤ 1023) := by
              have := HL.out
              have q : r.par.length ≤ 16 ∧ 0 ≤ r.tree ∧ r.tree < 65536 ∧ 1 ≤ r.gen ∧ r.gen ≤ 1023 := by omega
              exact q
            have NOT : Hid (¬ goodP n r.par → goodRB r n = false) := by
              have q : ¬ goodP n r.par → goodRB r n = false := fun k => goodRB_false fun g => k g.2.2.2.2.2.1
              exact q
            have YES : Hid (goodP n r.par → goodRB r n = goodF r.state r.bits) := by
              have q : goodP n r.par → goodRB r n = goodF r.state r.bits := fun k => by
                rw [Bool.eq_iff_iff, goodRB_iff]
                obtain ⟨o1, o2, o3, o4, o5⟩ := OK.out
                exact ⟨fun g => g.2.2.2.2.2.2, fun g => ⟨o1, o2, o3, o4, o5, k, g⟩⟩
              exact q
            generalize goodRB r n = R at *
            have FV : Hid (goodF r.state r.bits = goodF r.state r.bits) := rfl
            generalize r.tree = tree at *
            generalize r.gen = gen at *
            generalize r.state = state at *
            generalize r.bits = bits at *
            generalize hpar : r.par = par at *
            clear h1 h2 h3 h4 h5 hgr hpar
            have HS : Hid (RgRel par n w #[.slice a L cap, .int .i64 tree, .int .i64 gen, .int .i64 state, .string bits] L (.int .i64 0) (w.alloc (.cells #[.slice a L cap, .int .i64 tree, .int .i64 gen, .int .i64 state, .string bits] 61))) :=
              ⟨0, by rw [HL.out, Nat.zero_add], rfl, fun i p q => by simp at q, heap_alloc_last w _, Turned.alloc _ _ _⟩
            clear FV
            go_enter Try.func58, Try.ntmps58
            go_wp2
            go_loopg [5] L (fun g i wr => RgRel par n w #[.slice a L cap, .int .i64 tree, .int .i64 gen, .int .i64 state, .string bits] g i wr)
            case atStart => exact HS.out
            case round =>
              obtain ⟨j, hjg, rfl, hno, hblk, htr⟩ := hrel
              have N : Hid (goodP n (par.take j)) := hno
              have G : Hid (j + gk = par.length) := hjg
              have T : Hid (Turned (fun _ => False) w wr) := htr
              have BK : Hid (wr.heap[w.heap.size]? = some (.cells #[.slice a L cap, .int .i64 tree, .int .i64 gen, .int .i64 state, .string bits] 61 (0, 0))) := hblk
              have hlw := lt_of_block hblk
              have k0 := cell_of hblk 0 _ rfl
              clear hno hjg HS hblk htr
              by_cases hlt : j < L
              · obtain ⟨p, hp⟩ : ∃ p, par[j]? = some p := ⟨_, List.getElem?_eq_getElem (by rw [← HL.out]; exact hlt)⟩
                obtain ⟨b, off, rfl, hS, hbw, c0⟩ := ints_at (HI.out.turned T.out fun _ _ q => q) j p hp
                have C : Hid (par[j]? = some p) := hp
                clear hp
                by_cases g1 : p < 0
                · have e1 : decide (p < 0) = true := by simp; omega
                  have HF : Hid (R = false) := NOT.out (goodP_not C.out (.inl g1))
                  clear g1
                  go_wp2
                  go_ret
                  exact ⟨by rw [HF.out]; rfl, T.out⟩
                · have e1 : decide (p < 0) = false := by simp; omega
                  by_cases g2 : n ≤ p
                  · have e2 : decide (n ≤ p) = true := by simp; omega
                    have HF : Hid (R = false) := NOT.out (goodP_not C.out (.inr (.inl g2)))
                    clear g1 g2
                    go_wp2
                    go_ret
                    exact ⟨by rw [HF.out]; rfl, T.out⟩
                  · have e2 : decide (n ≤ p) = false := by simp; omega
                    have G12 : Hid (0 ≤ p ∧ p < n) := (by omega : 0 ≤ p ∧ p < n)
                    clear g1 g2
                    go_wp2
                    obtain ⟨wo, rfl⟩ : ∃ x : World, x = wr := ⟨wr, rfl⟩
                    have C0 : Hid (wo.cell? ⟨b, off + j, none⟩ = some (.int .i64 p)) := c0
                    clear c0 k0
                    go_loopg [6] j (fun g k wr => RkRel par p wo g j k wr)
                    case atStart => exact ⟨0, Nat.zero_add _, rfl, by simp, Turned.refl _ _⟩
                    case round =>
                      obtain ⟨t, htg, rfl, hnt, htq⟩ := hrel
                      have TQ : Hid (Turned (fun _ => False) wo wr) := htq
                      have GT : Hid (t + gk = j) := htg
                      have NT : Hid (p ∉ par.take t) := hnt
                      have c0 : wr.cell? ⟨b, off + j, none⟩ = some (.int .i64 p) := by rw [World.cell?_of_block (w' := wr) (TQ.out.block b hbw fun q => q)]; exact C0.out
                      have k0 := cell_of ((TQ.out.block _ hlw fun q => q).trans BK.out) 0 _ rfl
                      have hbr : b < wr.heap.size := Nat.lt_of_lt_of_le hbw TQ.out.size
                      clear htq htg hnt
                      by_cases htj : t < j
                      · obtain ⟨q, hq⟩ : ∃ q, par[t]? = some q := ⟨_, List.getElem?_eq_getElem (by rw [← HL.out]; omega)⟩
                        obtain ⟨b2, off2, hbb, -, -, d0⟩ := ints_at ((HI.out.turned T.out fun _ _ q => q).turned TQ.out fun _ _ q => q) t q hq
                        injection hbb with hbb
                        injection hbb with z1 z2
                        subst z1
                        subst z2
                        have D : Hid (par[t]? = some q) := hq
                        clear hq
                        by_cases hqp : q = p
                        · subst hqp
                          have hd := int_eqb q q rfl
                          have HF : Hid (R = false) := NOT.out (goodP_not C.out (.inr (.inr (List.mem_of_getElem? (i := t) (by rw [List.getElem?_take, if_pos htj]; exact D.out)))))
                          go_wp2
                          go_region
                          all_goals go_wp2
                          all_goals go_ret
                          all_goals exact ⟨by rw [HF.out]; rfl, (T.out.trans TQ.out fun _ _ q => q).draw⟩
                        · have hd := int_neb q p hqp
                          have HQ : Hid (p ≠ q) := fun z => hqp z.symm
                          clear hqp
                          go_wp2
                          go_region
                          all_goals go_wp2
                          all_goals
                            go_roundg (gk - 1)
                            case measure => have := GT.out; omega
                            case rel =>
                              refine ⟨t + 1, by have := GT.out; omega, by simp, ?_, TQ.out.draw⟩
                              rw [List.take_add_one, D.out]
                              simp only [Option.toList_some, List.mem_append, List.mem_singleton]
                              exact fun z => z.elim NT.out HQ.out
                      · have ht : t = j := by have := GT.out; omega
                        have HN : Hid (goodP n (par.take (j + 1))) := goodP_succ C.out N.out G12.out.1 G12.out.2 (by rw [← ht]; exact NT.out)
                        have HBK : Hid (wr.heap[w.heap.size]? = some (.cells #[.slice (some ⟨b, off, none⟩) L cap, .int .i64 tree, .int .i64 gen, .int .i64 state, .string bits] 61 (0, 0))) := (TQ.out.block _ hlw fun q => q).trans BK.out
                        clear ht
                        go_wp2
                        go_roundg (L - (j + 1))
                        case measure => have := G.out; have := HL.out; omega
                        case rel => exact ⟨j + 1, by have := HL.out; omega, by simp, HN.out, HBK.out, T.out.trans TQ.out fun _ _ q => q⟩
              · have HF : Hid (R = goodF state bits) := by
                  have q : R = goodF state bits := by
                    refine YES.out ?_
                    have := N.out
                    rw [List.take_of_length_le (by have := HL.out; omega)] at this
                    exact this
                  exact q
                have hbz := HBZ.out
                by_cases h0 : state = 0
                · subst h0
                  have FV : Hid (goodF 0 bits = decide (bits.size = 0)) := by have : goodF 0 bits = decide (bits.size = 0) := rfl; exact this
                  have k3 := cell_of BK.out 3 _ rfl
                  have k4 := cell_of BK.out 4 _ rfl
                  by_cases hb : bits.size = 0
                  · have HX : Hid (decide (bits.size = 0) = true) := decide_eq_true hb
                    have x1 := int_eqb (bits.size : Int) 0 (by omega)
                    clear hb hbz
                    go_wp2
                    go_ret
                    exact ⟨by rw [HF.out, FV.out, HX.out]; rfl, T.out⟩
                  · have HX : Hid (decide (bits.size = 0) = false) := decide_eq_false hb
                    have x1 := int_neb (bits.size : Int) 0 (by omega)
                    clear hb hbz
                    go_wp2
                    go_ret
                    exact ⟨by rw [HF.out, FV.out, HX.out]; rfl, T.out⟩
                · by_cases h2 : state = 2
                  · subst h2
                    have FV : Hid (goodF 2 bits = decide (bits.size = 0)) := by have : goodF 2 bits = decide (bits.size = 0) := rfl; exact this
                    have k3 := cell_of BK.out 3 _ rfl
                    have k4 := cell_of BK.out 4 _ rfl
                    by_cases hb : bits.size = 0
                    · have HX : Hid (decide (bits.size = 0) = true) := decide_eq_true hb
                      have x1 := int_eqb (bits.size : Int) 0 (by omega)
                      clear hb hbz
                      go_wp2
                      go_ret
                      exact ⟨by rw [HF.out, FV.out, HX.out]; rfl, T.out⟩
                    · have HX : Hid (decide (bits.size = 0) = false) := decide_eq_false hb
                      have x1 := int_neb (bits.size : Int) 0 (by omega)
                      clear hb hbz
                      go_wp2
                      go_ret
                      exact ⟨by rw [HF.out, FV.out, HX.out]; rfl, T.out⟩
                  · by_cases h1 : state = 1
                    · subst h1
                      have FV : Hid (goodF 1 bits = decide (1 ≤ bits.size ∧ bits.size ≤ 4096)) := by have : goodF 1 bits = decide (1 ≤ bits.size ∧ bits.size ≤ 4096) := rfl; exact this
                      have k3 := cell_of BK.out 3 _ rfl
                      have k4 := cell_of BK.out 4 _ rfl
                      by_cases hb : bits.size = 0
                      · have HX : Hid (decide (1 ≤ bits.size ∧ bits.size ≤ 4096) = false) := decide_eq_false (by omega)
                        have x1 : decide ((1 : Int) ≤ (bits.size : Int)) = false := decide_eq_false (by omega)
                        have x2 : decide (1 ≤ bits.size) = false := decide_eq_false (by omega)
                        have x3 : decide (0 < bits.size) = false := decide_eq_false (by omega)
                        clear hb hbz
                        go_wp2
                        go_ret
                        exact ⟨by rw [HF.out, FV.out, HX.out]; rfl, T.out⟩
                      · have x1 : decide ((1 : Int) ≤ (bits.size : Int)) = true := decide_eq_true (by omega)
                        have x2 : decide (1 ≤ bits.size) = true := decide_eq_true (by omega)
                        have x3 : decide (0 < bits.size) = true := decide_eq_true (by omega)
                        by_cases hm : bits.size ≤ 4096
                        · have HX : Hid (decide (1 ≤ bits.size ∧ bits.size ≤ 4096) = true) := decide_eq_true (by omega)
                          have y1 : decide ((bits.size : Int) ≤ 4096) = true := by simp; omega
                          have y2 : decide (bits.size ≤ 4096) = true := by simp; omega
                          clear hb hbz hm
                          go_wp2
                          go_ret
                          exact ⟨by rw [HF.out, FV.out, HX.out]; rfl, T.out⟩
                        · have HX : Hid (decide (1 ≤ bits.size ∧ bits.size ≤ 4096) = false) := decide_eq_false (by omega)
                          have y1 : decide ((bits.size : Int) ≤ 4096) = false := by simp; omega
                          have y2 : decide (bits.size ≤ 4096) = false := by simp; omega
                          clear hb hbz hm
                          go_wp2
                          go_ret
                          exact ⟨by rw [HF.out, FV.out, HX.out]; rfl, T.out⟩
                    · have FV : Hid (goodF state bits = false) := by
                        have : goodF state bits = false := by unfold goodF; rw [if_neg (by omega), if_neg h1]
                        exact this
                      have k3 := cell_of BK.out 3 _ rfl
                      have d0 := int_neb _ _ h0
                      have e2 := int_neb _ _ h2
                      have e1 := int_neb _ _ h1
                      clear h0 h1 h2 hbz
                      go_wp2
                      go_ret
                      exact ⟨by rw [HF.out, FV.out]; rfl, T.out⟩
end Go.Proofs.Ytfeljngmidhajaa
