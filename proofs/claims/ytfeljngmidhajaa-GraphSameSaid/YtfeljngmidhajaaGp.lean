/- Graph files: what is said of them, plain; and how they stand in memory. -/
import Derived.Test.YtfeljngmidhajaaBspec
import Derived.Test.YtfeljngmidhajaaFind
namespace Go.Proofs.Ytfeljngmidhajaa
open Go.RowKit Go.Mine

def I64 (x : Int) : Prop := -9223372036854775808 ≤ x ∧ x ≤ 9223372036854775807

structure Rw where
  par : List Int
  tree : Int
  gen : Int
  state : Int
  bits : ByteArray
structure Gr where
  base : Int
  h : Int
  p : Int
  m : Int
  seed : Nat
  rows : List Rw

/-- v reads as the ints l; its row, where it has one, lies in S -/
def Ints (w : World) (S : Nat → Prop) (a : Option Addr) (cap : Nat) (l : List Int) : Prop :=
  l.length ≤ cap ∧ cap ≤ maxLen ∧ (∀ x ∈ l, I64 x) ∧
    (0 < l.length → ∃ g off, a = some ⟨g, off, none⟩ ∧ S g ∧ g < w.heap.size ∧ ∀ (i : Nat) (x : Int), l[i]? = some x → w.cell? ⟨g, off + i, none⟩ = some (.int .i64 x))

theorem Ints.turned {w w' : World} {S T : Nat → Prop} {a : Option Addr} {cap : Nat} {l : List Int} (h : Ints w S a cap l) (ht : Turned T w w') (hS : ∀ b, S b → ¬ T b) : Ints w' S a cap l := by
  obtain ⟨h1, h2, h3, h4⟩ := h
  refine ⟨h1, h2, h3, fun q => ?_⟩
  obtain ⟨g, off, rfl, hg, hl, hc⟩ := h4 q
  refine ⟨g, off, rfl, hg, by have := ht.size; omega, fun i x hx => ?_⟩
  rw [World.cell?_of_block (w' := w') (ht.block g hl (hS g hg))]
  exact hc i x hx
theorem Ints.mono {w : World} {S T : Nat → Prop} {a : Option Addr} {cap : Nat} {l : List Int} (h : Ints w S a cap l) (hS : ∀ b, S b → T b) : Ints w T a cap l := by
  obtain ⟨h1, h2, h3, h4⟩ := h
  refine ⟨h1, h2, h3, fun q => ?_⟩
  obtain ⟨g, off, rfl, hg, hl, hc⟩ := h4 q
  exact ⟨g, off, rfl, hS g hg, hl, hc⟩
theorem Ints.take {w : World} {S : Nat → Prop} {a : Option Addr} {cap : Nat} {l : List Int} (h : Ints w S a cap l) (j : Nat) : Ints w S a cap (l.take j) := by
  obtain ⟨h1, h2, h3, h4⟩ := h
  refine ⟨by simp; omega, h2, fun x hx => h3 x (List.mem_of_mem_take hx), fun q => ?_⟩
  obtain ⟨g, off, rfl, hg, hl, hc⟩ := h4 (by simp at q; omega)
  refine ⟨g, off, rfl, hg, hl, fun i x hx => hc i x ?_⟩
  rw [List.getElem?_take] at hx
  split at hx
  · exact hx
  · simp at hx

theorem ints_at {w : World} {S : Nat → Prop} {a : Option Addr} {cap : Nat} {l : List Int} (h : Ints w S a cap l) (j : Nat) (x : Int) (hx : l[j]? = some x) :
    ∃ g off, a = some ⟨g, off, none⟩ ∧ S g ∧ g < w.heap.size ∧ w.cell? ⟨g, off + j, none⟩ = some (.int .i64 x) := by
  have hj := (List.getElem?_eq_some_iff.1 hx).1
  obtain ⟨g, off, h1, h2, h3, h4⟩ := h.2.2.2 (by omega)
  exact ⟨g, off, h1, h2, h3, h4 j x hx⟩

/-- a row at the cells from o of the block g on -/
def RowAt (w : World) (S : Nat → Prop) (g o : Nat) (r : Rw) : Prop :=
  ∃ a cap, Ints w S a cap r.par ∧ w.cell? ⟨g, o, none⟩ = some (.slice a r.par.length cap) ∧ w.cell? ⟨g, o + 1, none⟩ = some (.int .i64 r.tree) ∧ w.cell? ⟨g, o + 2, none⟩ = some (.int .i64 r.gen) ∧
    w.cell? ⟨g, o + 3, none⟩ = some (.int .i64 r.state) ∧ w.cell? ⟨g, o + 4, none⟩ = some (.string r.bits)

def RwOk (r : Rw) : Prop := I64 r.tree ∧ I64 r.gen ∧ I64 r.state ∧ r.bits.size ≤ 140737488355328

/-- a slice that reads as the rows l -/
def RwIs (w : World) (S : Nat → Prop) (a : Option Addr) (cap : Nat) (l : List Rw) : Prop :=
  l.length ≤ cap ∧ cap ≤ maxLen ∧ (∀ r ∈ l, RwOk r) ∧
    (0 < l.length → ∃ g off, a = some ⟨g, off, none⟩ ∧ S g ∧ g < w.heap.size ∧ ∀ (i : Nat) (r : Rw), l[i]? = some r → RowAt w S g (off + i * 5) r)

theorem RowAt.turned {w w' : World} {S T : Nat → Prop} {g o : Nat} {r : Rw} (h : RowAt w S g o r) (ht : Turned T w w') (hS : ∀ b, S b → ¬ T b) (hg : S g) (hl : g < w.heap.size) : RowAt w' S g o r := by
  obtain ⟨a, cap, h1, h2⟩ := h
  refine ⟨a, cap, h1.turned ht hS, ?_⟩
  have e : ∀ o, w'.cell? ⟨g, o, none⟩ = w.cell? ⟨g, o, none⟩ := fun o => World.cell?_of_block (w' := w') (ht.block g hl (hS g hg))
  simp only [e]
  exact h2

theorem RwIs.turned {w w' : World} {S T : Nat → Prop} {a : Option Addr} {cap : Nat} {l : List Rw} (h : RwIs w S a cap l) (ht : Turned T w w') (hS : ∀ b, S b → ¬ T b) : RwIs w' S a cap l := by
  obtain ⟨h1, h2, h3, h4⟩ := h
  refine ⟨h1, h2, h3, fun q => ?_⟩
  obtain ⟨g, off, rfl, hg, hl, hc⟩ := h4 q
  exact ⟨g, off, rfl, hg, by have := ht.size; omega, fun i r hr => (hc i r hr).turned ht hS hg hl⟩
theorem RowAt.mono {w : World} {S T : Nat → Prop} {g o : Nat} {r : Rw} (h : RowAt w S g o r) (hS : ∀ b, S b → T b) : RowAt w T g o r := by
  obtain ⟨a, cap, h1, h2⟩ := h
  exact ⟨a, cap, h1.mono hS, h2⟩
theorem RwIs.mono {w : World} {S T : Nat → Prop} {a : Option Addr} {cap : Nat} {l : List Rw} (h : RwIs w S a cap l) (hS : ∀ b, S b → T b) : RwIs w T a cap l := by
  obtain ⟨h1, h2, h3, h4⟩ := h
  refine ⟨h1, h2, h3, fun q => ?_⟩
  obtain ⟨g, off, rfl, hg, hl, hc⟩ := h4 q
  exact ⟨g, off, rfl, hS g hg, hl, fun i r hr => (hc i r hr).mono hS⟩
theorem rows_at {w : World} {S : Nat → Prop} {a : Option Addr} {cap : Nat} {l : List Rw} (h : RwIs w S a cap l) (j : Nat) (r : Rw) (hr : l[j]? = some r) :
    ∃ g off, a = some ⟨g, off, none⟩ ∧ S g ∧ g < w.heap.size ∧ RowAt w S g (off + j * 5) r := by
  have hj := (List.getElem?_eq_some_iff.1 hr).1
  obtain ⟨g, off, h1, h2, h3, h4⟩ := h.2.2.2 (by omega)
  exact ⟨g, off, h1, h2, h3, h4 j r hr⟩

abbrev rowv (a : Option Addr) (cap : Nat) (r : Rw) : Value := .agg #[.slice a r.par.length cap, .int .i64 r.tree, .int .i64 r.gen, .int .i64 r.state, .string r.bits]
abbrev grv (a : Option Addr) (cap : Nat) (g : Gr) : Value := .agg #[.int .i64 g.base, .int .i64 g.h, .int .i64 g.p, .int .i64 g.m, .int .u32 (g.seed : Nat), .slice a g.rows.length cap]
def GrOk (g : Gr) : Prop := I64 g.base ∧ I64 g.h ∧ I64 g.p ∧ I64 g.m ∧ g.seed < 4294967296

/-! ### what is good -/
def goodF (state : Int) (bits : ByteArray) : Bool :=
  if state = 0 ∨ state = 2 then decide (bits.size = 0) else if state = 1 then decide (1 ≤ bits.size ∧ bits.size ≤ 4096) else false
def goodP (n : Int) (l : List Int) : Prop := ∀ (i : Nat) (p : Int), l[i]? = some p → 0 ≤ p ∧ p < n ∧ p ∉ l.take i
def goodR (r : Rw) (n : Int) : Prop := r.par.length ≤ 16 ∧ 0 ≤ r.tree ∧ r.tree < 65536 ∧ 1 ≤ r.gen ∧ r.gen ≤ 1023 ∧ goodP n r.par ∧ goodF r.state r.bits = true
def goodS (g : Gr) : Prop := 1 ≤ g.h ∧ g.h ≤ 16 ∧ 1 ≤ g.p ∧ g.p ≤ 64 ∧ 0 ≤ g.m ∧ g.m ≤ 512
def goodN (g : Gr) : Prop := 0 ≤ g.base ∧ g.base ≤ 65536 ∧ (g.rows.length : Int) ≤ 65536 - g.base
def goodG (g : Gr) : Prop := goodN g ∧ goodS g ∧ ∀ (i : Nat) (r : Rw), g.rows[i]? = some r → goodR r (g.base + i)
open Classical in
noncomputable def goodRB (r : Rw) (n : Int) : Bool := decide (goodR r n)
open Classical in
noncomputable def grErr (g : Gr) : Nat := if goodG g then 0 else 1
theorem goodRB_true {r : Rw} {n : Int} (h : goodR r n) : goodRB r n = true := by unfold goodRB; simpa using h
theorem goodRB_false {r : Rw} {n : Int} (h : ¬ goodR r n) : goodRB r n = false := by unfold goodRB; simpa using h
theorem goodRB_iff {r : Rw} {n : Int} : goodRB r n = true ↔ goodR r n := by unfold goodRB; simp
theorem goodP_bound {n : Int} {l : List Int} (h : goodP n l) : ∀ p ∈ l, 0 ≤ p ∧ p < n := fun p hp => by
  obtain ⟨i, hi⟩ := List.getElem?_of_mem hp
  exact ⟨(h i p hi).1, (h i p hi).2.1⟩

end Go.Proofs.Ytfeljngmidhajaa
