/- Small laws of my own: a map's block as a function on keys, what an operation on it makes of it, and which blocks a call turns. -/
import Derived.WalkKit
import Derived.WalkSpells
import Derived.WalkLawsBesides
import Derived.Maps.Own
import Derived.Maps.OwnOps
import Derived.Maps.OwnSet
set_option linter.unusedVariables false
set_option linter.unusedSimpArgs false
namespace Go.Mine
open Go.MapKept

/-- only blocks in S (and new ones) have been turned -/
structure Turned (S : Nat → Prop) (w w' : World) : Prop where
  os : w'.os = w.os
  tape : w'.tape = w.tape
  output : w'.output = w.output
  size : w.heap.size ≤ w'.heap.size
  block : ∀ k, k < w.heap.size → ¬ S k → w'.heap[k]? = w.heap[k]?

theorem Turned.refl (S : Nat → Prop) (w : World) : Turned S w w := ⟨rfl, rfl, rfl, Nat.le_refl _, fun _ _ _ => rfl⟩
theorem Turned.trans {S S' : Nat → Prop} {a b c : World} (h : Turned S a b) (k : Turned S' b c) (hS : ∀ i, i < a.heap.size → S' i → S i) : Turned S a c :=
  ⟨k.os.trans h.os, k.tape.trans h.tape, k.output.trans h.output, Nat.le_trans h.size k.size, fun i hi hn => (k.block i (Nat.lt_of_lt_of_le hi h.size) (fun q => hn (hS i hi q))).trans (h.block i hi hn)⟩
theorem Turned.comp {S S' T : Nat → Prop} {a b c : World} (h : Turned S a b) (k : Turned S' b c) (hS : ∀ i, i < a.heap.size → S i ∨ S' i → T i) : Turned T a c :=
  ⟨k.os.trans h.os, k.tape.trans h.tape, k.output.trans h.output, Nat.le_trans h.size k.size, fun i hi hn => (k.block i (Nat.lt_of_lt_of_le hi h.size) (fun q => hn (hS i hi (.inr q)))).trans (h.block i hi fun q => hn (hS i hi (.inl q)))⟩
theorem Turned.mono {S S' : Nat → Prop} {a b : World} (h : Turned S a b) (hS : ∀ i, i < a.heap.size → S i → S' i) : Turned S' a b :=
  ⟨h.os, h.tape, h.output, h.size, fun i hi hn => h.block i hi fun q => hn (hS i hi q)⟩
theorem Turned.alloc (S : Nat → Prop) (w : World) (o : Obj) : Turned S w (w.alloc o) :=
  ⟨rfl, rfl, rfl, by simp, fun k hk _ => RowKit.Below.heap_alloc _ _ _ hk⟩
theorem Turned.drew (S : Nat → Prop) (w : World) : Turned S w w.drew := ⟨rfl, rfl, rfl, Nat.le_refl _, fun _ _ _ => rfl⟩
theorem Turned.setCell {S : Nat → Prop} {w : World} {p : Addr} (hp : S p.block) (u : Value) : Turned S w (w.setCell p u) :=
  ⟨rfl, rfl, rfl, by simp [World.setCell], fun k _ hn => RowKit.Below.heap_setCell _ _ _ _ (fun e => hn (e ▸ hp))⟩
theorem Turned.below {S : Nat → Prop} {B : Nat} {a b : World} (h : Turned S a b) (hS : ∀ k, k < B → ¬ S k) (hB : B ≤ a.heap.size) : RowKit.Below B a b :=
  ⟨h.os, h.tape, h.output, h.size, fun k hk => h.block k (Nat.lt_of_lt_of_le hk hB) (hS k hk)⟩

theorem heap_setCell_same {w : World} {b o : Nat} {c : Array Value} {T : TypeId} {f : Nat × Nat} (h : w.heap[b]? = some (.cells c T f)) (v : Value) :
    (w.setCell ⟨b, o, none⟩ v).heap[b]? = some (.cells (c.setIfInBounds o v) T f) := by
  simp [World.setCell, Array.getElem?_modify, h]
theorem heap_setCell_ne {w : World} {a : Addr} {b : Nat} (v : Value) (h : b ≠ a.block) : (w.setCell a v).heap[b]? = w.heap[b]? :=
  RowKit.Below.heap_setCell _ _ _ _ h
theorem heap_setCell_if (w : World) (b o x : Nat) (v : Value) : (w.setCell ⟨b, o, none⟩ v).heap[x]? = if b = x then (match w.heap[b]? with | some (.cells c T f) => some (.cells (c.setIfInBounds o v) T f) | y => y) else w.heap[x]? := by
  simp only [World.setCell, Array.getElem?_modify]
  split
  · rename_i h
    subst h
    cases h : w.heap[b]? with
    | none => rfl
    | some y => cases y <;> rfl
  · rfl
theorem heap_drew (w : World) : w.drew.heap = w.heap := rfl
theorem setCell_size (w : World) (a : Addr) (v : Value) : (w.setCell a v).heap.size = w.heap.size := by simp [World.setCell]
theorem Turned.set {S : Nat → Prop} {a w : World} (h : Turned S a w) {p : Addr} (hp : S p.block) (u : Value) : Turned S a (w.setCell p u) :=
  h.trans (Turned.setCell hp u) fun _ _ q => q
theorem Turned.draw {S : Nat → Prop} {a w : World} (h : Turned S a w) : Turned S a w.drew := ⟨h.os, h.tape, h.output, h.size, h.block⟩
theorem Turned.new {S : Nat → Prop} {a w : World} (h : Turned S a w) (o : Obj) : Turned S a (w.alloc o) := h.trans (Turned.alloc S w o) fun _ _ q => q
theorem heap_alloc_new (w : World) (o : Obj) : (w.alloc o).heap[w.heap.size]? = some o := (heap_alloc w o).1
theorem heap_alloc_old {w : World} {o : Obj} {b : Nat} {x : Obj} (h : w.heap[b]? = some x) : (w.alloc o).heap[b]? = some x := by
  have hlt : b < w.heap.size := (Array.getElem?_eq_some_iff.1 h).1
  rw [(heap_alloc w o).2 b hlt, h]
theorem lt_of_block {w : World} {b : Nat} {x : Obj} (h : w.heap[b]? = some x) : b < w.heap.size := (Array.getElem?_eq_some_iff.1 h).1

/-- cells and frozen marks out of a known block -/
theorem cell_of {w : World} {b : Nat} {c : Array Value} {T : TypeId} {f : Nat × Nat} (h : w.heap[b]? = some (.cells c T f)) (o : Nat) (v : Value) (hv : c[o]? = some v) :
    w.cell? ⟨b, o, none⟩ = some v := by simp [World.cell?, h, hv]
theorem free_of {w : World} {b : Nat} {c : Array Value} {T : TypeId} (h : w.heap[b]? = some (.cells c T (0, 0))) (o : Nat) :
    w.frozen? ⟨b, o, none⟩ = false := by simp [World.frozen?, h]

/-! ### maps -/
/-- what the laws on a map's block need of a kind of keys -/
structure KeyOk (P : Program) (kt : TypeId) (K : Value → Prop) : Prop where
  check : ∀ (w : World) (em : Bool) {v : Value}, K v → (Instr.checkKey em 10000 kt v).run P w = .ok () w
  find : ∀ (w : World) {x : Value}, K x → ∀ es : List MapEntry, (∀ e ∈ es, K e.key) →
    ((Instr.findKey kt x es).run P w = .ok none w ∧ ∀ e ∈ es, e.key ≠ x) ∨ ∃ j e, (Instr.findKey kt x es).run P w = .ok (some (j, e.val)) w ∧ es[j]? = some e ∧ e.key = x
  stays : ∀ (w : World) {v : Value}, K v → (Instr.keyThatStays v v).run P w = .ok v w

theorem plain_keyOk {P : Program} {kt : TypeId} {d : TypeDesc} (hk : P.underlying kt = some d) : KeyOk P kt (IsKey d) where
  check w em _ h := run_checkKey hk h em 9999
  find w _ hx es hes := by
    rcases findNow_spec hx es 0 hes with ⟨h1, h2⟩ | ⟨j, e0, h1, h2, h3⟩
    · exact Or.inl ⟨run_findKey hk h1, h2⟩
    · exact Or.inr ⟨j, e0, by simpa using run_findKey hk h1, h2, h3⟩
  stays w _ h := run_keyThatStays h

theorem KeyOk.mono {P : Program} {kt : TypeId} {K K' : Value → Prop} (h : KeyOk P kt K) (hK : ∀ v, K' v → K v) : KeyOk P kt K' where
  check w em _ hv := h.check w em (hK _ hv)
  find w _ hx es hes := h.find w (hK _ hx) es fun e he => hK _ (hes e he)
  stays w _ hv := h.stays w (hK _ hv)

/-- block b holds the map m, n keys -/
def MapIs (K : Value → Prop) (w : World) (b : Nat) (m : Value → Option Value) (n : Nat) : Prop :=
  ∃ es clock, w.heap[b]? = some (.map es clock) ∧ (∀ e ∈ es.toList, K e.key) ∧ (∀ e ∈ es.toList, m e.key = some e.val) ∧
    (∀ k v, m k = some v → ∃ e ∈ es.toList, e.key = k) ∧ es.toList.Pairwise (fun x y => x.key ≠ y.key) ∧ es.size = n

theorem MapIs.congr {K : Value → Prop} {w w' : World} {b : Nat} {m m' : Value → Option Value} {n : Nat} (h : MapIs K w b m n) (hb : w'.heap[b]? = w.heap[b]?) (hm : ∀ k, m' k = m k) : MapIs K w' b m' n := by
  obtain ⟨es, clock, h1, h2, h3, h4, h5⟩ := h
  exact ⟨es, clock, hb.trans h1, h2, fun e he => (hm _).trans (h3 e he), fun k v hv => h4 k v ((hm k).symm.trans hv), h5⟩

theorem MapIs.lt {K : Value → Prop} {w : World} {b : Nat} {m : Value → Option Value} {n : Nat} (h : MapIs K w b m n) : b < w.heap.size := by
  obtain ⟨es, clock, h1, _⟩ := h; exact lt_of_block h1

theorem MapIs.made (K : Value → Prop) (w : World) : MapIs K (w.alloc (.map #[] 0)) w.heap.size (fun _ => none) 0 :=
  ⟨#[], 0, heap_alloc_new _ _, by simp, by simp, by simp, by simp, rfl⟩

section
variable {P : Program} {kt et t : TypeId} {K : Value → Prop} {w : World} {b : Nat} {m : Value → Option Value} {n : Nat}

theorem MapIs.look (h : MapIs K w b m n) (O : KeyOk P kt K) (ht : P.underlying t = some (.map kt et)) {z : Value} (hz : (zeroValue et).run P w = .ok z w) {x : Value} (hx : K x) :
    (Instr.lookup t (.map (some b)) x false).run P w = .ok ((m x).getD z) w := by
  obtain ⟨es, clock, h1, h2, h3, h4, h5, h6⟩ := h
  rcases O.find w hx es.toList h2 with ⟨f1, f2⟩ | ⟨j, e, f1, f2, f3⟩
  · have hm : m x = none := by
      cases hmx : m x with
      | none => rfl
      | some v => obtain ⟨e, he, hk⟩ := h4 x v hmx; exact absurd hk (f2 e he)
    simp [Instr.lookup, run_underlying ht, MapKept.run_getObj_map h1, O.check w _ hx, f1, hz, Result.andThen, hm]
  · have hm := h3 e (List.mem_of_getElem? f2)
    rw [f3] at hm
    simp [Instr.lookup, run_underlying ht, MapKept.run_getObj_map h1, O.check w _ hx, f1, Result.andThen, hm]

theorem MapIs.look_ok (h : MapIs K w b m n) (O : KeyOk P kt K) (ht : P.underlying t = some (.map kt et)) {z : Value} (hz : (zeroValue et).run P w = .ok z w) {x : Value} (hx : K x) :
    (Instr.lookup t (.map (some b)) x true).run P w = .ok (.tuple #[(m x).getD z, .bool (m x).isSome]) w := by
  obtain ⟨es, clock, h1, h2, h3, h4, h5, h6⟩ := h
  rcases O.find w hx es.toList h2 with ⟨f1, f2⟩ | ⟨j, e, f1, f2, f3⟩
  · have hm : m x = none := by
      cases hmx : m x with
      | none => rfl
      | some v => obtain ⟨e, he, hk⟩ := h4 x v hmx; exact absurd hk (f2 e he)
    simp [Instr.lookup, run_underlying ht, MapKept.run_getObj_map h1, O.check w _ hx, f1, hz, Result.andThen, hm]
  · have hm := h3 e (List.mem_of_getElem? f2)
    rw [f3] at hm
    simp [Instr.lookup, run_underlying ht, MapKept.run_getObj_map h1, O.check w _ hx, f1, Result.andThen, hm]

theorem look_nil (O : KeyOk P kt K) (ht : P.underlying t = some (.map kt et)) {z : Value} (hz : (zeroValue et).run P w = .ok z w) {x : Value} (hx : K x) :
    (Instr.lookup t (.map none) x false).run P w = .ok z w := by
  have hf : (Instr.findKey kt x []).run P w = .ok none w := by
    rcases O.find w hx [] (by simp) with ⟨f1, _⟩ | ⟨j, e, _, f2, _⟩
    · exact f1
    · simp at f2
  simp [Instr.lookup, run_underlying ht, O.check w _ hx, hf, hz, Result.andThen]

theorem MapIs.len (h : MapIs K w b m n) (ht : P.underlying t = some (.map kt et)) (ty : TypeId) : (Builtin.len_ #[t] ty #[.map (some b)]).run P w = .ok (.int .i64 n) w := by
  obtain ⟨es, clock, h1, h2, h3, h4, h5, h6⟩ := h
  simp [Builtin.len_, run_underlying ht, MapKept.run_getObj_map h1, Result.andThen, goInt, h6]

open Classical in
theorem MapIs.update (h : MapIs K w b m n) (O : KeyOk P kt K) (ht : P.underlying t = some (.map kt et)) {x : Value} (hx : K x) (v : Value) :
    ∃ w', (Instr.mapUpdate t (.map (some b)) x v).run P w = .ok () w' ∧ MapIs K w' b (fun y => if y = x then some v else m y) (if (m x).isSome then n else n + 1) ∧
      Turned (· = b) w w' ∧ w'.heap.size = w.heap.size := by
  obtain ⟨es, clock, h1, h2, h3, h4, h5, h6⟩ := h
  have hb := fun o' => heap_set (w := w) (r := b) (o' := o') h1
  rcases O.find w hx es.toList h2 with ⟨f1, f2⟩ | ⟨j, e, f1, f2, f3⟩
  · have hm : m x = none := by
      cases hmx : m x with
      | none => rfl
      | some v => obtain ⟨e, he, hk⟩ := h4 x v hmx; exact absurd hk (f2 e he)
    refine ⟨{ w with heap := w.heap.setIfInBounds b (.map (es.push ⟨x, v, clock⟩) (clock + 1)) }, by simp [Instr.mapUpdate, run_underlying ht, MapKept.run_getObj_map h1, O.check w _ hx, f1, MapKept.run_setObj_map _ h1, Result.andThen],
      ⟨es.push ⟨x, v, clock⟩, clock + 1, (hb _).1, ?_, ?_, ?_, ?_, ?_⟩, ⟨rfl, rfl, rfl, by simp, fun k _ hn => (hb _).2 k hn⟩, by simp⟩
    · intro e he; rw [Array.toList_push] at he; rcases List.mem_append.1 he with he | he
      · exact h2 e he
      · rw [List.mem_singleton] at he; subst he; exact hx
    · intro e he; rw [Array.toList_push] at he; rcases List.mem_append.1 he with he | he
      · simp only []; rw [if_neg (f2 e he)]; exact h3 e he
      · rw [List.mem_singleton] at he; subst he; simp
    · intro k u hu
      by_cases hk : k = x
      · exact ⟨⟨x, v, clock⟩, by simp, hk.symm⟩
      · simp only [hk, if_false] at hu
        obtain ⟨e, he, hek⟩ := h4 k u hu
        exact ⟨e, by simp at he ⊢; exact Or.inl he, hek⟩
    · simp only [Array.toList_push]
      refine List.pairwise_append.2 ⟨h5, by simp, ?_⟩
      intro a ha c hc; simp at hc; subst hc; exact f2 a ha
    · simp [hm, h6]
  · have hm := h3 e (List.mem_of_getElem? f2)
    rw [f3] at hm
    have hej : es[j]? = some e := by simpa using f2
    have hjl : j < es.size := (Array.getElem?_eq_some_iff.1 hej).1
    have hkey : ∀ (i : Nat) (y : MapEntry), (es.modify j fun e => { e with key := x, val := v })[i]? = some y → ∃ y0, es[i]? = some y0 ∧ y.key = y0.key ∧ (if i = j then y.val = v else y = y0) := by
      intro i y hy
      rw [Array.getElem?_modify] at hy
      by_cases hij : j = i
      · subst hij
        simp [hej] at hy
        exact ⟨e, hej, by rw [← hy, f3], by simp [← hy]⟩
      · rw [if_neg hij] at hy
        exact ⟨y, hy, rfl, by rw [if_neg (Ne.symm hij)]⟩
    have hdist : ∀ (i1 i2 : Nat) (y1 y2 : MapEntry), es[i1]? = some y1 → es[i2]? = some y2 → i1 ≠ i2 → y1.key ≠ y2.key := by
      intro i1 i2 y1 y2 e1 e2 hne
      have p := List.pairwise_iff_getElem.1 h5
      obtain ⟨l1, g1⟩ := Array.getElem?_eq_some_iff.1 e1
      obtain ⟨l2, g2⟩ := Array.getElem?_eq_some_iff.1 e2
      rcases Nat.lt_or_gt_of_ne hne with hl | hl
      · have := p i1 i2 (by simpa using l1) (by simpa using l2) hl
        simpa [g1, g2] using this
      · have := p i2 i1 (by simpa using l2) (by simpa using l1) hl
        exact fun q => (by simpa [g1, g2] using this : y2.key ≠ y1.key) q.symm
    refine ⟨{ w with heap := w.heap.setIfInBounds b (.map (es.modify j fun e => { e with key := x, val := v }) clock) }, by simp [Instr.mapUpdate, run_underlying ht, MapKept.run_getObj_map h1, O.check w _ hx, f1, hej, f3, O.stays w hx, MapKept.run_setObj_map _ h1, Result.andThen],
      ⟨es.modify j fun e => { e with key := x, val := v }, clock, (hb _).1, ?_, ?_, ?_, ?_, ?_⟩, ⟨rfl, rfl, rfl, by simp, fun k _ hn => (hb _).2 k hn⟩, by simp⟩
    · intro y hy
      obtain ⟨i, hi⟩ := List.getElem?_of_mem hy
      obtain ⟨y0, g0, g1, _⟩ := hkey i y (by rw [← Array.getElem?_toList]; exact hi)
      rw [g1]; exact h2 y0 (List.mem_of_getElem? (by simpa using g0))
    · intro y hy
      obtain ⟨i, hi⟩ := List.getElem?_of_mem hy
      obtain ⟨y0, g0, g1, g2⟩ := hkey i y (by rw [← Array.getElem?_toList]; exact hi)
      by_cases hij : i = j
      · subst hij
        rw [hej] at g0; obtain rfl := Option.some.inj g0
        simp only [if_true] at g2
        simp only [g1, f3, if_true, g2]
      · simp only [hij, if_false] at g2
        subst g2
        have hne : y.key ≠ x := by rw [← f3]; exact hdist i j y e g0 hej hij
        simp only [hne, if_false]
        exact h3 y (List.mem_of_getElem? (by simpa using g0))
    · intro k u hu
      by_cases hk : k = x
      · refine ⟨{ e with key := x, val := v }, ?_, hk.symm⟩
        refine List.mem_of_getElem? (i := j) ?_
        simp [hej]
      · simp only [hk, if_false] at hu
        obtain ⟨y, hy, hyk⟩ := h4 k u hu
        obtain ⟨i, hi⟩ := List.getElem?_of_mem hy
        have hi' : es[i]? = some y := by simpa using hi
        have hij : i ≠ j := fun q => by subst q; rw [hej] at hi'; obtain rfl := Option.some.inj hi'; exact hk (hyk.symm.trans f3)
        refine ⟨y, List.mem_of_getElem? (i := i) ?_, hyk⟩
        simp [Ne.symm hij, hi']
    · rw [List.pairwise_iff_getElem]
      intro i1 i2 l1 l2 hl
      obtain ⟨y1, g1, k1, _⟩ := hkey i1 _ (Array.getElem?_eq_some_iff.2 ⟨by simpa using l1, rfl⟩)
      obtain ⟨y2, g2, k2, _⟩ := hkey i2 _ (Array.getElem?_eq_some_iff.2 ⟨by simpa using l2, rfl⟩)
      have := hdist i1 i2 y1 y2 g1 g2 (Nat.ne_of_lt hl)
      simp only [Array.getElem_toList]
      rw [k1, k2]; exact this
    · simp [hm, h6]

open Classical in
theorem MapIs.delete (h : MapIs K w b m n) (O : KeyOk P kt K) (ht : P.underlying t = some (.map kt et)) {x : Value} (hx : K x) (ty : TypeId) :
    ∃ w', (Builtin.delete_ #[t, kt] ty #[.map (some b), x]).run P w = .ok (.tuple #[]) w' ∧ MapIs K w' b (fun y => if y = x then none else m y) (if (m x).isSome then n - 1 else n) ∧
      Turned (· = b) w w' ∧ w'.heap.size = w.heap.size := by
  obtain ⟨es, clock, h1, h2, h3, h4, h5, h6⟩ := h
  have hb := fun o' => heap_set (w := w) (r := b) (o' := o') h1
  rcases O.find w hx es.toList h2 with ⟨f1, f2⟩ | ⟨j, e, f1, f2, f3⟩
  · have hm : m x = none := by
      cases hmx : m x with
      | none => rfl
      | some v => obtain ⟨e, he, hk⟩ := h4 x v hmx; exact absurd hk (f2 e he)
    refine ⟨{ w with heap := w.heap.setIfInBounds b (.map es clock) }, by simp [Builtin.delete_, run_underlying ht, MapKept.run_getObj_map h1, O.check w _ hx, f1, MapKept.run_setObj_map _ h1, Result.andThen],
      ⟨es, clock, (hb _).1, h2, ?_, ?_, h5, ?_⟩, ⟨rfl, rfl, rfl, by simp, fun k _ hn => (hb _).2 k hn⟩, by simp⟩
    · intro e he; simp only []; rw [if_neg (f2 e he)]; exact h3 e he
    · intro k u hu
      by_cases hk : k = x
      · simp [hk] at hu
      · simp only [hk, if_false] at hu; exact h4 k u hu
    · simp [hm, h6]
  · have hm := h3 e (List.mem_of_getElem? f2)
    rw [f3] at hm
    have hej : es[j]? = some e := by simpa using f2
    have hjl : j < es.size := (Array.getElem?_eq_some_iff.1 hej).1
    have hers : (es.eraseIdxIfInBounds j).toList = es.toList.eraseIdx j := by
      simp [Array.eraseIdxIfInBounds, hjl, Array.toList_eraseIdx]
    have hsub : (es.toList.eraseIdx j).Sublist es.toList := List.eraseIdx_sublist _ _
    have hdist : ∀ (i1 : Nat) (y1 : MapEntry), es[i1]? = some y1 → i1 ≠ j → y1.key ≠ x := by
      intro i1 y1 e1 hne
      have p := List.pairwise_iff_getElem.1 h5
      obtain ⟨l1, g1⟩ := Array.getElem?_eq_some_iff.1 e1
      obtain ⟨l2, g2⟩ := Array.getElem?_eq_some_iff.1 hej
      rw [← f3]
      rcases Nat.lt_or_gt_of_ne hne with hl | hl
      · have := p i1 j (by simpa using l1) (by simpa using l2) hl
        simpa [g1, g2] using this
      · have := p j i1 (by simpa using l2) (by simpa using l1) hl
        exact fun q => (by simpa [g1, g2] using this : e.key ≠ y1.key) q.symm
    refine ⟨{ w with heap := w.heap.setIfInBounds b (.map (es.eraseIdxIfInBounds j) clock) }, by simp [Builtin.delete_, run_underlying ht, MapKept.run_getObj_map h1, O.check w _ hx, f1, MapKept.run_setObj_map _ h1, Result.andThen],
      ⟨es.eraseIdxIfInBounds j, clock, (hb _).1, ?_, ?_, ?_, ?_, ?_⟩, ⟨rfl, rfl, rfl, by simp, fun k _ hn => (hb _).2 k hn⟩, by simp⟩
    · intro y hy; rw [hers] at hy; exact h2 y (hsub.subset hy)
    · intro y hy; rw [hers] at hy
      have hyne : y.key ≠ x := by
        rw [List.mem_eraseIdx_iff_getElem?] at hy
        obtain ⟨i, hij, hi⟩ := hy
        exact hdist i y (by simpa using hi) hij
      simp only [hyne, if_false]; exact h3 y (hsub.subset hy)
    · intro k u hu
      by_cases hk : k = x
      · simp [hk] at hu
      · simp only [hk, if_false] at hu
        obtain ⟨y, hy, hyk⟩ := h4 k u hu
        obtain ⟨i, hi⟩ := List.getElem?_of_mem hy
        refine ⟨y, ?_, hyk⟩
        rw [hers, List.mem_eraseIdx_iff_getElem?]
        refine ⟨i, fun q => ?_, hi⟩
        subst q
        have hi' : es[i]? = some y := by simpa using hi
        rw [hej] at hi'; obtain rfl := Option.some.inj hi'; exact hk (hyk.symm.trans f3)
    · rw [hers]; exact h5.sublist hsub
    · simp [hm, ← h6, Array.eraseIdxIfInBounds, hjl]
end

/-! ### the operations, for the walk -/
section
variable {P : Program} {w : World} {ops : Array Oper} {rest : List Oper} {o : Oper} {a : Act} {Q : Exit → Act → World → Prop}
variable {K : Value → Prop} {b n : Nat} {m : Value → Option Value}

theorem wpList_look (hg : o.guard = none) (mo xo : Operand) (t : TypeId) (hop : o.op = Op.lookup t mo xo false) (kt et : TypeId) (O : KeyOk P kt K) (ht : P.underlying t = some (.map kt et))
    (z : Value) (hz : (zeroValue et).run P w = .ok z w) (h : MapIs K w b m n) (hm : a.eval mo = .map (some b)) (x : Value) (hx : a.eval xo = x) (hk : K x)
    (hK : wpList P ops Q rest (a.put o.dst ((m x).getD z)) w) : wpList P ops Q (o :: rest) a w := by
  refine wpList_plain hg fun K' hK' => ?_
  unfold Oper.wp
  simp [execOp, hop, hm, hx, h.look O ht hz hk, Result.andThen]
  exact hK' _ _ hK

theorem wpList_look_ok (hg : o.guard = none) (mo xo : Operand) (t : TypeId) (hop : o.op = Op.lookup t mo xo true) (kt et : TypeId) (O : KeyOk P kt K) (ht : P.underlying t = some (.map kt et))
    (z : Value) (hz : (zeroValue et).run P w = .ok z w) (h : MapIs K w b m n) (hm : a.eval mo = .map (some b)) (x : Value) (hx : a.eval xo = x) (hk : K x)
    (hK : wpList P ops Q rest (a.put o.dst (.tuple #[(m x).getD z, .bool (m x).isSome])) w) : wpList P ops Q (o :: rest) a w := by
  refine wpList_plain hg fun K' hK' => ?_
  unfold Oper.wp
  simp [execOp, hop, hm, hx, h.look_ok O ht hz hk, Result.andThen]
  exact hK' _ _ hK

theorem wpList_look_nil (hg : o.guard = none) (mo xo : Operand) (t : TypeId) (hop : o.op = Op.lookup t mo xo false) (kt et : TypeId) (O : KeyOk P kt K) (ht : P.underlying t = some (.map kt et))
    (z : Value) (hz : (zeroValue et).run P w = .ok z w) (hm : a.eval mo = .map none) (x : Value) (hx : a.eval xo = x) (hk : K x)
    (hK : wpList P ops Q rest (a.put o.dst z) w) : wpList P ops Q (o :: rest) a w := by
  refine wpList_plain hg fun K' hK' => ?_
  unfold Oper.wp
  simp [execOp, hop, hm, hx, look_nil O ht hz hk, Result.andThen]
  exact hK' _ _ hK

theorem wpList_len (hg : o.guard = none) (mo : Operand) (t : TypeId) (hop : o.op = Op.call { callee := Callee.builtin Builtin.len, args := #[mo], argTypes := #[t] }) (kt et : TypeId) (ht : P.underlying t = some (.map kt et))
    (h : MapIs K w b m n) (hm : a.eval mo = .map (some b)) (hK : wpList P ops Q rest (a.put o.dst (.int .i64 n)) w) : wpList P ops Q (o :: rest) a w := by
  refine wpList_plain hg fun K' hK' => ?_
  unfold Oper.wp
  simp [execOp, hop, resolve, invoke, builtin, hm, h.len ht o.type, Result.andThen]
  exact hK' _ _ hK

open Classical in
theorem wpList_update (hg : o.guard = none) (mo xo vo : Operand) (t : TypeId) (hop : o.op = Op.mapUpdate t mo xo vo) (kt et : TypeId) (O : KeyOk P kt K) (ht : P.underlying t = some (.map kt et))
    (h : MapIs K w b m n) (hm : a.eval mo = .map (some b)) (x v : Value) (hx : a.eval xo = x) (hv : a.eval vo = v) (hk : K x)
    (hK : ∀ w', MapIs K w' b (fun y => if y = x then some v else m y) (if (m x).isSome then n else n + 1) → Turned (· = b) w w' → w'.heap.size = w.heap.size → wpList P ops Q rest (a.put o.dst undef) w') :
    wpList P ops Q (o :: rest) a w := by
  refine wpList_plain hg fun K' hK' => ?_
  obtain ⟨w', hrun, r1, r2, r3⟩ := h.update O ht hk v
  unfold Oper.wp
  simp [execOp, hop, hm, hx, hv, hrun, Result.andThen]
  exact hK' _ _ (hK w' r1 r2 r3)

open Classical in
theorem wpList_delete (hg : o.guard = none) (mo xo : Operand) (t kt : TypeId) (hop : o.op = Op.call { callee := Callee.builtin Builtin.delete, args := #[mo, xo], argTypes := #[t, kt] }) (et : TypeId) (O : KeyOk P kt K) (ht : P.underlying t = some (.map kt et))
    (h : MapIs K w b m n) (hm : a.eval mo = .map (some b)) (x : Value) (hx : a.eval xo = x) (hk : K x)
    (hK : ∀ w', MapIs K w' b (fun y => if y = x then none else m y) (if (m x).isSome then n - 1 else n) → Turned (· = b) w w' → w'.heap.size = w.heap.size → wpList P ops Q rest (a.put o.dst (.tuple #[])) w') :
    wpList P ops Q (o :: rest) a w := by
  refine wpList_plain hg fun K' hK' => ?_
  obtain ⟨w', hrun, r1, r2, r3⟩ := h.delete O ht hk o.type
  unfold Oper.wp
  simp [execOp, hop, resolve, invoke, builtin, hm, hx, hrun, Result.andThen]
  exact hK' _ _ (hK w' r1 r2 r3)
end

end Go.Mine
