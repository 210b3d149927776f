/- A line's command: what lies where while it is read. -/
import Derived.Test.YteblabpplaaddaaGreatDoorQv
import Derived.Laws.Rows
set_option linter.unusedVariables false
set_option linter.unusedSimpArgs false
namespace Go.Proofs.YteblabpplaaddaaGreatDoor
open Go.RowKit Go.Mine Go.Mine.Sc

theorem info39 : (Tryz.prog.info? 39).map (·.size) = some 11 := by kernel_rfl
theorem info54 : (Tryz.prog.info? 54).map (fun i => (i.zero, i.size, i.bytes)) = some (some (.agg #[.string ⟨#[]⟩, .int .u32 0]), 2, 24) := by kernel_rfl

def tcells : List (B × Int) → List Value
  | [] => []
  | p :: l => .string (bs p.1) :: .int .u32 p.2 :: tcells l
theorem tcells_app (a b : List (B × Int)) : tcells (a ++ b) = tcells a ++ tcells b := by
  induction a with
  | nil => rfl
  | cons p a ih => simp [tcells, ih]
theorem tcells_length (l : List (B × Int)) : (tcells l).length = l.length * 2 := by
  induction l with
  | nil => rfl
  | cons p l ih => simp [tcells, ih]; omega

abbrev zero11 : Array Value := #[.int .i64 0, .slice none 0 0, .string ⟨#[]⟩, .string ⟨#[]⟩, .slice none 0 0, .int .i64 0, .int .i64 0, .int .i64 0, .int .i64 0, .slice none 0 0, .string ⟨#[]⟩]

/-- a command as it lies: its eleven cells -/
def CmdV (w : World) (S : Nat → Prop) (c : Cmd) (cs : Array Value) : Prop :=
  ∃ a1 k1 a4 k4 a9 k9, cs = #[.int .i64 c.kind, .slice a1 c.nums.length k1, .string (bs c.text), .string (bs c.more), .slice a4 c.tree.length k4, .int .i64 c.ask.kind, .int .i64 c.ask.a, .int .i64 c.ask.b, .int .i64 c.ask.limit, .slice a9 c.ask.ids.length k9, .string (bs c.ask.path)] ∧
    Sl w S 3 1 (.slice a1 c.nums.length k1) (icells c.nums) c.nums.length ∧ Sl w S 54 2 (.slice a4 c.tree.length k4) (tcells c.tree) c.tree.length ∧ Sl w S 3 1 (.slice a9 c.ask.ids.length k9) (icells c.ask.ids) c.ask.ids.length
theorem CmdV.turned {w w' : World} {S T : Nat → Prop} {c : Cmd} {cs : Array Value} (h : CmdV w S c cs) (ht : Turned T w w') (hS : ∀ b, S b → ¬ T b) : CmdV w' S c cs := by
  obtain ⟨a1, k1, a4, k4, a9, k9, h0, h1, h2, h3⟩ := h
  exact ⟨a1, k1, a4, k4, a9, k9, h0, h1.turned ht hS, h2.turned ht hS, h3.turned ht hS⟩
theorem CmdV.widen {w : World} {S T : Nat → Prop} {c : Cmd} {cs : Array Value} (h : CmdV w S c cs) (hS : ∀ b, S b → T b) : CmdV w T c cs := by
  obtain ⟨a1, k1, a4, k4, a9, k9, h0, h1, h2, h3⟩ := h
  exact ⟨a1, k1, a4, k4, a9, k9, h0, h1.widen hS, h2.widen hS, h3.widen hS⟩

/-- command, by its plain reading -/
def CmdPost (w : World) (p : Nat) : Option Cmd → Ending → World → Prop
  | some c, e, w' => (∃ cs, e = .returned (.agg cs) ∧ CmdV w' (fun b => w.heap.size ≤ b) c cs) ∧ Turned (· = p) w w'
  | none, e, w' => e = .panicked [wrongE] ∧ Turned (· = p) w w'

/-- where the reading stands: b1 is the command's box -/
structure CS (w0 w : World) (p b1 : Nat) (cs : Array Value) (v1 : Value) (l : List Int) (v4 : Value) (t : List (B × Int)) (r : B) (W : World) : Prop where
  at_ : At w0 W p r
  turn : Turned (· = p) w W
  res : W.heap[w.heap.size]? = some (.cells zero11 39 (0, 0))
  box : W.heap[b1]? = some (.cells cs 39 (0, 0))
  lo : p < w.heap.size
  hi : w.heap.size < b1
  nums : Sl W (fun b => w.heap.size < b ∧ b ≠ b1) 3 1 v1 (icells l) l.length
  tree : Sl W (fun b => w.heap.size < b ∧ b ≠ b1) 54 2 v4 (tcells t) t.length

section
variable {w0 w W W' : World} {p b1 : Nat} {cs : Array Value} {v1 v4 : Value} {l : List Int} {t : List (B × Int)} {r r' : B}
theorem CS.next (h : CS w0 w p b1 cs v1 l v4 t r W) (ht : Turned (· = p) W W') (ha : At w0 W' p r') : CS w0 w p b1 cs v1 l v4 t r' W' :=
  ⟨ha, h.turn.trans ht fun _ _ q => q, (ht.block _ (lt_of_block h.res) (by have := h.lo; omega)).trans h.res, (ht.block _ (lt_of_block h.box) (by have := h.lo; have := h.hi; omega)).trans h.box, h.lo, h.hi,
   h.nums.turned ht fun b q z => by have := h.lo; have := q.1; omega, h.tree.turned ht fun b q z => by have := h.lo; have := q.1; omega⟩
theorem CS.same (h : CS w0 w p b1 cs v1 l v4 t r W) (ht : Turned (fun _ => False) W W') : CS w0 w p b1 cs v1 l v4 t r W' := h.next (ht.mono fun _ _ q => q.elim) (h.at_.turned ht)
theorem CS.new (h : CS w0 w p b1 cs v1 l v4 t r W) (o : Obj) : CS w0 w p b1 cs v1 l v4 t r (W.alloc o) := h.same ((Turned.refl _ W).new o)
theorem CS.store (h : CS w0 w p b1 cs v1 l v4 t r W) {cs' : Array Value} (ht : Turned (· = b1) W W') (hb : W'.heap[b1]? = some (.cells cs' 39 (0, 0))) : CS w0 w p b1 cs' v1 l v4 t r W' :=
  ⟨h.at_.other ht fun b q => by have := h.lo; have := h.hi; have := h.at_.low; omega, h.turn.comp ht fun b hb q => q.elim id fun q => by have := h.hi; omega,
   (ht.block _ (lt_of_block h.res) (by have := h.hi; omega)).trans h.res, hb, h.lo, h.hi, h.nums.turned ht fun b q z => q.2 z, h.tree.turned ht fun b q z => q.2 z⟩
theorem CS.put (h : CS w0 w p b1 cs v1 l v4 t r W) (i : Nat) (v : Value) : CS w0 w p b1 (cs.setIfInBounds i v) v1 l v4 t r (W.setCell ⟨b1, i, none⟩ v) :=
  h.store (Turned.setCell (S := (· = b1)) (p := ⟨b1, i, none⟩) rfl v) (Go.Mine.heap_setCell_same h.box v)
theorem CS.withNums (h : CS w0 w p b1 cs v1 l v4 t r W) {v1' : Value} {l' : List Int} (hn : Sl W (fun b => w.heap.size < b ∧ b ≠ b1) 3 1 v1' (icells l') l'.length) : CS w0 w p b1 cs v1' l' v4 t r W :=
  ⟨h.at_, h.turn, h.res, h.box, h.lo, h.hi, hn, h.tree⟩
theorem CS.withTree (h : CS w0 w p b1 cs v1 l v4 t r W) {v4' : Value} {t' : List (B × Int)} (hn : Sl W (fun b => w.heap.size < b ∧ b ≠ b1) 54 2 v4' (tcells t') t'.length) : CS w0 w p b1 cs v1 l v4' t' r W :=
  ⟨h.at_, h.turn, h.res, h.box, h.lo, h.hi, h.nums, hn⟩
theorem sl_one (W : World) (n : Int) {S : Nat → Prop} (hS : S W.heap.size) : Sl (W.alloc (.cells #[.int .i64 n] 3)) S 3 1 (.slice (some ⟨W.heap.size, 0, none⟩) 1 1) (icells [n]) 1 :=
  ⟨rfl, .inr ⟨W.heap.size, 0, 1, #[.int .i64 n], rfl, hS, heap_alloc_new W _, Nat.le_refl _, by simp [maxLen], by simp, by simp [icells]⟩⟩
theorem CS.one (h : CS w0 w p b1 cs v1 l v4 t r W) (n : Int) :
    CS w0 w p b1 (cs.setIfInBounds 1 (.slice (some ⟨W.heap.size, 0, none⟩) 1 1)) (.slice (some ⟨W.heap.size, 0, none⟩) 1 1) [n] v4 t r ((W.setCell ⟨b1, 1, none⟩ (.slice (some ⟨W.heap.size, 0, none⟩) 1 1)).alloc (.cells #[.int .i64 n] 3)) :=
  ((h.put 1 _).new _).withNums (by
    have h1 := lt_of_block h.box
    have h2 := h.hi
    have hs : (W.setCell ⟨b1, 1, none⟩ (.slice (some ⟨W.heap.size, 0, none⟩) 1 1)).heap.size = W.heap.size := setCell_size _ _ _
    have := sl_one (W.setCell ⟨b1, 1, none⟩ (.slice (some ⟨W.heap.size, 0, none⟩) 1 1)) n (S := fun b => w.heap.size < b ∧ b ≠ b1) (by rw [hs]; constructor <;> omega)
    rw [hs] at this
    exact this)
theorem CS.first {k : Int} (hat : At w0 W p r) (ht : Turned (· = p) w W) (hr : W.heap[w.heap.size]? = some (.cells zero11 39 (0, 0))) (lo : p < w.heap.size) :
    CS w0 w p W.heap.size #[.int .i64 k, .slice none 0 0, .string ⟨#[]⟩, .string ⟨#[]⟩, .slice none 0 0, .int .i64 0, .int .i64 0, .int .i64 0, .int .i64 0, .slice none 0 0, .string ⟨#[]⟩] (.slice none 0 0) [] (.slice none 0 0) [] r
      (W.alloc (.cells #[.int .i64 k, .slice none 0 0, .string ⟨#[]⟩, .string ⟨#[]⟩, .slice none 0 0, .int .i64 0, .int .i64 0, .int .i64 0, .int .i64 0, .slice none 0 0, .string ⟨#[]⟩] 39)) :=
  have ht1 : Turned (fun _ => False) W (W.alloc (.cells #[.int .i64 k, .slice none 0 0, .string ⟨#[]⟩, .string ⟨#[]⟩, .slice none 0 0, .int .i64 0, .int .i64 0, .int .i64 0, .int .i64 0, .slice none 0 0, .string ⟨#[]⟩] 39)) := (Turned.refl _ W).new _
  ⟨hat.turned ht1, ht.trans ht1 fun _ _ q => q.elim, (ht1.block _ (lt_of_block hr) id).trans hr, heap_alloc_new W _, lo, lt_of_block hr, Sl.nil _ _ _ _, Sl.nil _ _ _ _⟩

theorem CS.num (h : CS w0 w p b1 cs v1 l v4 t r W) {n : Int} (hq : pNum r = some (n, r')) :
    Calls Tryz.prog 52 #[pt p] W fun e w' => e = .returned (.int .i64 n) ∧ CS w0 w p b1 cs v1 l v4 t r' w' :=
  (num_some h.at_ hq).mono fun _ _ q => ⟨q.1, h.next q.2.2 q.2.1⟩
theorem CS.num_no (h : CS w0 w p b1 cs v1 l v4 t r W) (hq : pNum r = none) : Calls Tryz.prog 52 #[pt p] W fun e w' => e = .panicked [wrongE] ∧ Turned (· = p) w w' :=
  (num_none h.at_ hq).mono fun _ _ q => ⟨q.1, h.turn.trans q.2 fun _ _ z => z⟩
theorem CS.txt (h : CS w0 w p b1 cs v1 l v4 t r W) {x : B} (hq : pText r = some (x, r')) :
    Calls Tryz.prog 54 #[pt p] W fun e w' => e = .returned (.string (bs x)) ∧ CS w0 w p b1 cs v1 l v4 t r' w' :=
  (txt_some h.at_ hq).mono fun _ _ q => ⟨q.1, h.next q.2.2 q.2.1⟩
theorem CS.txt_no (h : CS w0 w p b1 cs v1 l v4 t r W) (hq : pText r = none) : Calls Tryz.prog 54 #[pt p] W fun e w' => e = .panicked [wrongE] ∧ Turned (· = p) w w' :=
  (txt_none h.at_ hq).mono fun _ _ q => ⟨q.1, h.turn.trans q.2 fun _ _ z => z⟩
theorem CS.small (h : CS w0 w p b1 cs v1 l v4 t r W) {n : Int} (hq : pSmall r = some (n, r')) :
    Calls Tryz.prog 55 #[pt p] W fun e w' => e = .returned (.int .u32 n) ∧ CS w0 w p b1 cs v1 l v4 t r' w' :=
  (small_yes h.at_ hq).mono fun _ _ q => ⟨q.1, h.next q.2.2 q.2.1⟩
theorem CS.small_no (h : CS w0 w p b1 cs v1 l v4 t r W) (hq : pSmall r = none) : Calls Tryz.prog 55 #[pt p] W fun e w' => e = .panicked [wrongE] ∧ Turned (· = p) w w' :=
  (small_not h.at_ hq).mono fun _ _ q => ⟨q.1, h.turn.trans q.2 fun _ _ z => z⟩
theorem CS.more (h : CS w0 w p b1 cs v1 l v4 t r W) : Calls Tryz.prog 53 #[pt p] W fun e w' => e = .returned (.bool (decide (r ≠ []))) ∧ w' = W := more_any p r W h.at_.line
theorem CS.more_end (h : CS w0 w p b1 cs v1 l v4 t [] W) : Calls Tryz.prog 53 #[pt p] W fun e w' => e = .returned (.bool false) ∧ w' = W := h.more
theorem CS.more_on (h : CS w0 w p b1 cs v1 l v4 t r W) (hr : r ≠ []) : Calls Tryz.prog 53 #[pt p] W fun e w' => e = .returned (.bool true) ∧ w' = W := by
  have := h.more
  rw [decide_eq_true hr] at this
  exact this

/-- the end: the box has been laid over the result's -/
theorem CS.fin {a1 k1 a4 k4 a9 k9} {c : Cmd} (h : CS w0 w p b1 cs (.slice a1 c.nums.length k1) c.nums (.slice a4 c.tree.length k4) c.tree r W) (ht : Turned (· = w.heap.size) W W')
    (hi : Sl W (fun b => w.heap.size < b ∧ b ≠ b1) 3 1 (.slice a9 c.ask.ids.length k9) (icells c.ask.ids) c.ask.ids.length) :
    CmdV W' (fun b => w.heap.size ≤ b) c #[.int .i64 c.kind, .slice a1 c.nums.length k1, .string (bs c.text), .string (bs c.more), .slice a4 c.tree.length k4, .int .i64 c.ask.kind, .int .i64 c.ask.a, .int .i64 c.ask.b, .int .i64 c.ask.limit, .slice a9 c.ask.ids.length k9, .string (bs c.ask.path)] ∧ Turned (· = p) w W' :=
  ⟨⟨a1, k1, a4, k4, a9, k9, rfl, (h.nums.turned ht fun b q z => by have := q.1; omega).widen fun b q => Nat.le_of_lt q.1, (h.tree.turned ht fun b q z => by have := q.1; omega).widen fun b q => Nat.le_of_lt q.1, (hi.turned ht fun b q z => by have := q.1; omega).widen fun b q => Nat.le_of_lt q.1⟩,
   h.turn.comp ht fun b hb q => q.elim id fun q => by omega⟩
end

set_option maxRecDepth 100000 in
theorem cmd_ret {R : Ending → World → Prop} {tmps : Array Value} {W : World} {q : Nat} {y0 y1 y2 y3 y4 y5 y6 y7 y8 y9 y10 : Value} (ht : tmps[2]?.getD undef = pt q) (hb : W.heap[q]? = some (.cells #[y0, y1, y2, y3, y4, y5, y6, y7, y8, y9, y10] 39 (0, 0)))
    (hR : R (.returned (.agg #[y0, y1, y2, y3, y4, y5, y6, y7, y8, y9, y10])) W) : bodyPost Tryz.prog Tryz.f30 R .ret { tmps := tmps, defers := [] } W := by
  have r0 := cell_of hb 0 _ rfl
  have r1 := cell_of hb 1 _ rfl
  have r2 := cell_of hb 2 _ rfl
  have r3 := cell_of hb 3 _ rfl
  have r4 := cell_of hb 4 _ rfl
  have r5 := cell_of hb 5 _ rfl
  have r6 := cell_of hb 6 _ rfl
  have r7 := cell_of hb 7 _ rfl
  have r8 := cell_of hb 8 _ rfl
  have r9 := cell_of hb 9 _ rfl
  have r10 := cell_of hb 10 _ rfl
  clear hb
  simp only [List.getElem_toArray, List.getElem_cons_zero, List.getElem_cons_succ] at r0 r1 r2 r3 r4 r5 r6 r7 r8 r9 r10
  simp [bodyPost, results, Tryz.results30, go_sem, ht, r0, r1, r2, r3, r4, r5, r6, r7, r8, r9, r10]
  exact hR

/-- what a command's walk begins with -/
structure Begin (w0 w : World) (p : Nat) (s : B) (k : Int) : Prop where
  name : ∀ W, Turned (fun _ => False) w W → Calls Tryz.prog 49 #[pt p] W fun e w' => e = .returned (.string (bs (tok s))) ∧ At w0 w' p (aft s) ∧ Turned (· = p) W w'
  find : ∀ W bm, W.heap[bm]? = some (.map (mapEa cnames) 13) → Calls Tryz.prog 50 #[.map (some bm), .string (bs (tok s))] W fun e w' => e = .returned (.int .i64 k) ∧ Turned (fun _ => False) W w'
  low : p < w.heap.size
theorem Begin.of {w0 w : World} {p : Nat} {s : B} {k : Int} (h : At w0 w p s) (hk : kindIn cnames (tok s) = k) : Begin w0 w p s k where
  name W ht := (name_any p s W (h.turned ht).line).mono fun e w' ⟨h1, h2⟩ => ⟨h1, by
    have h' := h.turned ht
    have t1 : Turned (· = p) W w' := by rw [h2]; exact line_turn _
    exact ⟨h'.on t1 (by rw [h2]; exact line_put h'.line _) (aft_le s), t1⟩⟩
  find W bm hm := by
    have := find_any cnames (by decide +kernel) (tok s) bm W hm
    rw [hk] at this
    exact this
  low := lt_of_block h.line
end Go.Proofs.YteblabpplaaddaaGreatDoor
