/- A line's question: the walk of question. -/
import Derived.Test.YteblabpplaaddaaGreatDoorTx
set_option linter.unusedVariables false
set_option linter.unusedSimpArgs false
namespace Go.Proofs.YteblabpplaaddaaGreatDoor
open Go.RowKit Go.Mine Go.Mine.Sc

/-- what a question's line is read at: its place -/
structure At (w0 w : World) (p : Nat) (s : B) : Prop where
  lw : Lw w0 w
  low : w0.heap.size ≤ p
  line : LineAt w p s
  len : s.length ≤ 1000000
theorem At.turned {w0 w w' : World} {p : Nat} {s : B} (h : At w0 w p s) (ht : Turned (fun _ => False) w w') : At w0 w' p s := ⟨h.lw.turned0 ht, h.low, line_turned h.line ht id, h.len⟩
theorem At.on {w0 w w' : World} {p : Nat} {s r : B} (h : At w0 w p s) (ht : Turned (· = p) w w') (hl : LineAt w' p r) (hr : r.length ≤ s.length) : At w0 w' p r :=
  ⟨h.lw.turned ht fun b q => by have := h.low; omega, h.low, hl, by have := h.len; omega⟩

theorem num_some {w0 w : World} {p : Nat} {s : B} (h : At w0 w p s) {n : Int} {r : B} (hq : pNum s = some (n, r)) :
    Calls Tryz.prog 52 #[pt p] w fun e w' => e = .returned (.int .i64 n) ∧ At w0 w' p r ∧ Turned (· = p) w w' :=
  (number_some w0 p s w h.lw h.low h.line h.len hq).mono fun e w' ⟨h1, h2, h3⟩ => ⟨h1, h.on h3 h2 (Nat.le_of_lt (pNum_lt hq)), h3⟩
theorem num_none {w0 w : World} {p : Nat} {s : B} (h : At w0 w p s) (hq : pNum s = none) : Calls Tryz.prog 52 #[pt p] w fun e w' => e = .panicked [wrongE] ∧ Turned (· = p) w w' :=
  number_none w0 p s w h.lw h.low h.line h.len hq
theorem small_yes {w0 w : World} {p : Nat} {s : B} (h : At w0 w p s) {n : Int} {r : B} (hq : pSmall s = some (n, r)) :
    Calls Tryz.prog 55 #[pt p] w fun e w' => e = .returned (.int .u32 n) ∧ At w0 w' p r ∧ Turned (· = p) w w' :=
  (small_some w0 p s w h.lw h.low h.line h.len hq).mono fun e w' ⟨h1, h2, h3⟩ => ⟨h1, h.on h3 h2 (Nat.le_of_lt (pNum_lt (pSmall_num hq).1)), h3⟩
theorem small_not {w0 w : World} {p : Nat} {s : B} (h : At w0 w p s) (hq : pSmall s = none) : Calls Tryz.prog 55 #[pt p] w fun e w' => e = .panicked [wrongE] ∧ Turned (· = p) w w' :=
  small_none w0 p s w h.lw h.low h.line h.len hq
theorem nums_some {w0 w : World} {p : Nat} {s : B} (h : At w0 w p s) {l : List Int} (hq : pNums s = some l) :
    Calls Tryz.prog 56 #[pt p] w fun e w' => (∃ a cap, e = .returned (.slice a l.length cap) ∧ Sl w' (fun b => w.heap.size ≤ b) 3 1 (.slice a l.length cap) (icells l) l.length) ∧ At w0 w' p [] ∧ Turned (· = p) w w' := by
  have := numbers_any w0 p s w h.lw h.low h.line h.len
  rw [hq] at this
  exact this.mono fun e w' ⟨h1, h2, h3⟩ => ⟨h1, h.on h3 h2 (by simp), h3⟩
theorem nums_none {w0 w : World} {p : Nat} {s : B} (h : At w0 w p s) (hq : pNums s = none) : Calls Tryz.prog 56 #[pt p] w fun e w' => e = .panicked [wrongE] ∧ Turned (· = p) w w' := by
  have := numbers_any w0 p s w h.lw h.low h.line h.len
  rw [hq] at this
  exact this
theorem txt_some {w0 w : World} {p : Nat} {s : B} (h : At w0 w p s) {x r : B} (hq : pText s = some (x, r)) :
    Calls Tryz.prog 54 #[pt p] w fun e w' => e = .returned (.string (bs x)) ∧ At w0 w' p r ∧ Turned (· = p) w w' := by
  match s, h, hq with
  | [], h, hq => simp [pText] at hq
  | [c], h, hq => simp [pText] at hq
  | c :: d :: t, h, hq =>
    have hlt := pText_lt hq
    simp only [pText] at hq
    split at hq
    · rename_i hcd
      obtain ⟨rfl, rfl⟩ := hcd
      have := text_ok w0 p t w h.lw h.low h.line (by have := h.len; simp at this; omega)
      rw [hq] at this
      exact this.mono fun e w' ⟨h1, h2, h3⟩ => ⟨h1, h.on h3 h2 (by omega), h3⟩
    · simp at hq
theorem txt_none {w0 w : World} {p : Nat} {s : B} (h : At w0 w p s) (hq : pText s = none) : Calls Tryz.prog 54 #[pt p] w fun e w' => e = .panicked [wrongE] ∧ Turned (· = p) w w' := by
  match s, h, hq with
  | [], h, hq => exact text_blank p [] w h.line (by simp)
  | [c], h, hq =>
    by_cases hc : c = 32
    · subst hc; exact text_quote p [] w h.line (by simp)
    · exact text_blank p [c] w h.line (by simpa using hc)
  | c :: d :: t, h, hq =>
    by_cases hc : c = 32
    · subst hc
      by_cases hd : d = 34
      · subst hd
        simp only [pText] at hq
        have := text_ok w0 p t w h.lw h.low h.line (by have := h.len; simp at this; omega)
        rw [if_pos ⟨trivial, trivial⟩] at hq
        rw [hq] at this
        exact this
      · exact text_quote p (d :: t) w h.line (by simpa using hd)
    · exact text_blank p (c :: d :: t) w h.line (by simpa using hc)

theorem At.other {w0 w w' : World} {p : Nat} {s : B} {S : Nat → Prop} (h : At w0 w p s) (ht : Turned S w w') (hS : ∀ b, S b → b ≠ p ∧ w0.heap.size ≤ b) : At w0 w' p s :=
  ⟨h.lw.turned ht fun b q => (hS b q).2, h.low, line_turned h.line ht fun q => (hS p q).1 rfl, h.len⟩

/-- the two boxes of question -/
def QB (w w1 : World) (k : Int) : Prop :=
  w1.heap[w.heap.size]? = some (.cells #[.int .i64 0, .int .i64 0, .int .i64 0, .int .i64 0, .slice none 0 0, .string ⟨#[]⟩] 37 (0, 0)) ∧ w1.heap[w.heap.size + 1]? = some (.cells #[.int .i64 k, .int .i64 0, .int .i64 0, .int .i64 0, .slice none 0 0, .string ⟨#[]⟩] 37 (0, 0))
theorem QB.first {w w1 : World} {p : Nat} {k : Int} (ht : Turned (· = p) ((w.alloc (.cells #[.int .i64 0, .int .i64 0, .int .i64 0, .int .i64 0, .slice none 0 0, .string ⟨#[]⟩] 37)).alloc (.cells #[.int .i64 k, .int .i64 0, .int .i64 0, .int .i64 0, .slice none 0 0, .string ⟨#[]⟩] 37)) w1) (hp : p < w.heap.size) : QB w w1 k :=
  ⟨(ht.block _ (by simp; omega) (by omega)).trans (Go.Mine.heap_alloc_old (heap_alloc_new w _)), (ht.block _ (by simp) (by omega)).trans (by simpa using heap_alloc_new (w.alloc _) _)⟩
theorem QB.next {w w1 w2 : World} {p : Nat} {k : Int} (h : QB w w1 k) (ht : Turned (· = p) w1 w2) (hp : p < w.heap.size) : QB w w2 k :=
  ⟨(ht.block _ (lt_of_block h.1) (by omega)).trans h.1, (ht.block _ (lt_of_block h.2) (by omega)).trans h.2⟩
theorem turned_boxes {w w1 : World} {p : Nat} {o o' : Obj} (ht : Turned (· = p) ((w.alloc o).alloc o') w1) : Turned (· = p) w w1 := (((Turned.refl (· = p) w).new _).new _).trans ht fun _ _ q => q

/-- question, by its plain reading -/
def QuesPost (w0 w : World) (p : Nat) : Option (Ques × B) → Ending → World → Prop
  | some (q, r), e, w' => (∃ a cap, e = .returned (.agg #[.int .i64 q.kind, .int .i64 q.a, .int .i64 q.b, .int .i64 q.limit, .slice a q.ids.length cap, .string (bs q.path)]) ∧ Sl w' (fun b => w.heap.size ≤ b) 3 1 (.slice a q.ids.length cap) (icells q.ids) q.ids.length) ∧ At w0 w' p r ∧ Turned (· = p) w w'
  | none, e, w' => e = .panicked [wrongE] ∧ Turned (· = p) w w'

theorem six_put (w1 : World) (q : Nat) (x0 x1 x2 x3 x4 x5 y0 y1 y2 y3 y4 y5 : Value) (h : w1.heap[q]? = some (.cells #[x0, x1, x2, x3, x4, x5] 37 (0, 0))) :
    ((((((w1.setCell ⟨q, 0, none⟩ y0).setCell ⟨q, 1, none⟩ y1).setCell ⟨q, 2, none⟩ y2).setCell ⟨q, 3, none⟩ y3).setCell ⟨q, 4, none⟩ y4).setCell ⟨q, 5, none⟩ y5).heap[q]? = some (.cells #[y0, y1, y2, y3, y4, y5] 37 (0, 0)) ∧
    Turned (· = q) w1 ((((((w1.setCell ⟨q, 0, none⟩ y0).setCell ⟨q, 1, none⟩ y1).setCell ⟨q, 2, none⟩ y2).setCell ⟨q, 3, none⟩ y3).setCell ⟨q, 4, none⟩ y4).setCell ⟨q, 5, none⟩ y5) :=
  ⟨(Go.Mine.heap_setCell_same (Go.Mine.heap_setCell_same (Go.Mine.heap_setCell_same (Go.Mine.heap_setCell_same (Go.Mine.heap_setCell_same (Go.Mine.heap_setCell_same h _) _) _) _) _) _),
   ((((((Turned.refl (· = q) w1).set (p := ⟨q, 0, none⟩) rfl _).set (p := ⟨q, 1, none⟩) rfl _).set (p := ⟨q, 2, none⟩) rfl _).set (p := ⟨q, 3, none⟩) rfl _).set (p := ⟨q, 4, none⟩) rfl _).set (p := ⟨q, 5, none⟩) rfl _⟩

set_option maxRecDepth 100000 in
theorem ques_ret {R : Ending → World → Prop} {tmps : Array Value} {W : World} {q : Nat} {y0 y1 y2 y3 y4 y5 : Value} (ht : tmps[4]?.getD undef = pt q) (hb : W.heap[q]? = some (.cells #[y0, y1, y2, y3, y4, y5] 37 (0, 0)))
    (hR : R (.returned (.agg #[y0, y1, y2, y3, y4, y5])) W) : bodyPost Tryz.prog Tryz.f57 R .ret { tmps := tmps, defers := [] } W := by
  have r0 := cell_of hb 0 _ rfl
  have r1 := cell_of hb 1 _ rfl
  have r2 := cell_of hb 2 _ rfl
  have r3 := cell_of hb 3 _ rfl
  have r4 := cell_of hb 4 _ rfl
  have r5 := cell_of hb 5 _ rfl
  clear hb
  simp only [List.getElem_toArray, List.getElem_cons_zero, List.getElem_cons_succ] at r0 r1 r2 r3 r4 r5
  simp [bodyPost, results, Tryz.results57, go_sem, ht, r0, r1, r2, r3, r4, r5]
  exact hR
end Go.Proofs.YteblabpplaaddaaGreatDoor
