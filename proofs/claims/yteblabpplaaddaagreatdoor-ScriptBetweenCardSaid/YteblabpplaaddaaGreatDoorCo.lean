/- A line's command: the walk of command: numbers, entries, a question. -/
import Derived.Test.YteblabpplaaddaaGreatDoorCn
set_option linter.unusedVariables false
set_option linter.unusedSimpArgs false
namespace Go.Proofs.YteblabpplaaddaaGreatDoor
open Go.RowKit Go.Mine Go.Mine.Sc

section
variable {w0 w W W' : World} {p b1 : Nat} {cs : Array Value} {v1 v4 : Value} {l : List Int} {t : List (B × Int)} {r r' : B}
theorem CS.numsC (h : CS w0 w p b1 cs v1 l v4 t r W) {l' : List Int} (hq : pNums r = some l') :
    Calls Tryz.prog 56 #[pt p] W fun e w' => ∃ a cap, e = .returned (.slice a l'.length cap) ∧ Sl w' (fun b => W.heap.size ≤ b) 3 1 (.slice a l'.length cap) (icells l') l'.length ∧ CS w0 w p b1 cs v1 l v4 t [] w' :=
  (nums_some h.at_ hq).mono fun _ _ ⟨⟨a, cap, h1, h2⟩, h3, h4⟩ => ⟨a, cap, h1, h2, h.next h4 h3⟩
theorem CS.numsC_no (h : CS w0 w p b1 cs v1 l v4 t r W) (hq : pNums r = none) : Calls Tryz.prog 56 #[pt p] W fun e w' => e = .panicked [wrongE] ∧ Turned (· = p) w w' :=
  (nums_none h.at_ hq).mono fun _ _ q => ⟨q.1, h.turn.trans q.2 fun _ _ z => z⟩
theorem CS.app (h : CS w0 w p b1 cs v1 l v4 t r W) (ht : Turned (fun b => w.heap.size < b ∧ b ≠ b1) W W') {v1' v4' : Value} {l' : List Int} {t' : List (B × Int)}
    (hn : Sl W' (fun b => w.heap.size < b ∧ b ≠ b1) 3 1 v1' (icells l') l'.length) (h4 : Sl W' (fun b => w.heap.size < b ∧ b ≠ b1) 54 2 v4' (tcells t') t'.length) : CS w0 w p b1 cs v1' l' v4' t' r W' :=
  ⟨h.at_.other ht fun b q => by have := h.lo; have := h.at_.low; omega, h.turn.comp ht fun b hb q => q.elim id fun q => by omega,
   (ht.block _ (lt_of_block h.res) (by omega)).trans h.res, (ht.block _ (lt_of_block h.box) (by omega)).trans h.box, h.lo, h.hi, hn, h4⟩
theorem CS.ques (h : CS w0 w p b1 cs v1 l v4 t r W) (k : Int) (hk : k = 0 ∨ k = 1 ∨ k = 2 ∨ k = 3 ∨ k = 4 ∨ k = 5 ∨ k = 6 ∨ k = 7 ∨ k = 8 ∨ k = 9 ∨ k = 10 ∨ k = 11 ∨ k = 12) {q : Ques} (hq : pQues k r = some (q, r')) :
    Calls Tryz.prog 57 #[pt p, .int .i64 k] W fun e w' => ∃ a cap, e = .returned (.agg #[.int .i64 q.kind, .int .i64 q.a, .int .i64 q.b, .int .i64 q.limit, .slice a q.ids.length cap, .string (bs q.path)]) ∧
      Sl w' (fun b => w.heap.size < b ∧ b ≠ b1) 3 1 (.slice a q.ids.length cap) (icells q.ids) q.ids.length ∧ CS w0 w p b1 cs v1 l v4 t r' w' := by
  have := ques_any k hk w0 W p r h.at_
  rw [hq] at this
  have hb := lt_of_block h.box
  have hh := h.hi
  exact this.mono fun _ _ ⟨⟨a, cap, h1, h2⟩, h3, h4⟩ => ⟨a, cap, h1, h2.widen fun b q => by omega, h.next h4 h3⟩
theorem CS.ques_no (h : CS w0 w p b1 cs v1 l v4 t r W) (k : Int) (hk : k = 0 ∨ k = 1 ∨ k = 2 ∨ k = 3 ∨ k = 4 ∨ k = 5 ∨ k = 6 ∨ k = 7 ∨ k = 8 ∨ k = 9 ∨ k = 10 ∨ k = 11 ∨ k = 12) (hq : pQues k r = none) :
    Calls Tryz.prog 57 #[pt p, .int .i64 k] W fun e w' => e = .panicked [wrongE] ∧ Turned (· = p) w w' := by
  have := ques_any k hk w0 W p r h.at_
  rw [hq] at this
  exact this.mono fun _ _ q => ⟨q.1, h.turn.trans q.2 fun _ _ z => z⟩
end
theorem pNums_len : ∀ {s : B} {l : List Int}, pNums s = some l → l.length ≤ s.length := by
  intro s
  induction hn : s.length using Nat.strongRecOn generalizing s with
  | _ n ih =>
    intro l h
    by_cases hs : s = []
    · subst hs
      rw [pNums_nil] at h
      injection h with h
      subst h
      simp
    · cases hq : pNum s with
      | none => rw [pNums_none hs hq] at h; simp at h
      | some q =>
        obtain ⟨m, r⟩ := q
        rw [pNums_some hq] at h
        obtain ⟨l2, h2, rfl⟩ := Option.map_eq_some_iff.1 h
        have hlt := pNum_lt hq
        have := ih r.length (by omega) rfl h2
        simp; omega
theorem qkind_any (name : B) : kindIn qnames name = 0 ∨ kindIn qnames name = 1 ∨ kindIn qnames name = 2 ∨ kindIn qnames name = 3 ∨ kindIn qnames name = 4 ∨ kindIn qnames name = 5 ∨ kindIn qnames name = 6 ∨ kindIn qnames name = 7 ∨ kindIn qnames name = 8 ∨ kindIn qnames name = 9 ∨ kindIn qnames name = 10 ∨ kindIn qnames name = 11 ∨ kindIn qnames name = 12 := by
  rcases kindIn_mem qnames name with h | h
  · exact .inl h
  · right
    have : qnames.map (·.1) = [1, 2, 3, 4, 5, 6, 7, 8, 9, 10, 11, 12] := by decide +kernel
    rw [this] at h
    simpa using h
theorem sl_two (W : World) (x : B) (n : Int) {S : Nat → Prop} (hS : S W.heap.size) : Sl (W.alloc (.cells #[.string (bs x), .int .u32 n] 54)) S 54 2 (.slice (some ⟨W.heap.size, 0, none⟩) 1 1) (tcells [(x, n)]) 1 :=
  ⟨rfl, .inr ⟨W.heap.size, 0, 1, #[.string (bs x), .int .u32 n], rfl, hS, heap_alloc_new W _, Nat.le_refl _, by simp [maxLen], by simp, by simp [tcells]⟩⟩
theorem icells_one (l : List Int) : ∀ u ∈ icells l, u.oneCell' = true := by
  intro u hu
  obtain ⟨n, -, rfl⟩ := List.mem_map.1 hu
  rfl
theorem tcells_one (l : List (B × Int)) : ∀ u ∈ tcells l, u.oneCell' = true := by
  induction l with
  | nil => intro u hu; simp [tcells] at hu
  | cons q l ih =>
    intro u hu
    simp only [tcells, List.mem_cons] at hu
    rcases hu with rfl | rfl | hu
    · rfl
    · rfl
    · exact ih u hu

end Go.Proofs.YteblabpplaaddaaGreatDoor
