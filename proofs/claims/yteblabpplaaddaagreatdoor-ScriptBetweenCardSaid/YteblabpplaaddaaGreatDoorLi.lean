/- What is left of a line: its small methods. -/
import Derived.Test.YteblabpplaaddaaGreatDoorWf
import Derived.Test.YteblabpplaaddaaGreatDoorShelf
import Derived.Shelf.Small.Wraps
import Derived.Shelf.Small.Strs
import Derived.Shelf.Strings.Prefix
import Derived.Lib.IndexLaws
set_option linter.unusedVariables false
set_option linter.unusedSimpArgs false
namespace Go.Proofs.YteblabpplaaddaaGreatDoor
open Go.RowKit Go.Mine Go.Mine.Sc

abbrev pt (b : Nat) : Value := .pointer (some ⟨b, 0, none⟩)
/-- a line's block -/
abbrev LineAt (w : World) (p : Nat) (s : B) : Prop := w.heap[p]? = some (.cells #[.string (bs s)] 69 (0, 0))
/-- what a line is given up with -/
abbrev wrongE : PanicEntry := { v := .iface 61 (.agg #[]), recovered := false }

theorem bs_list (s : B) : (bs s).data.toList = s := by simp
theorem bs_size (s : B) : (bs s).size = s.length := by simp [ByteArray.size]
theorem bs_nil (s : B) : (bs s = ⟨#[]⟩) ↔ s = [] := by
  constructor
  · intro h
    have := congrArg (fun x : ByteArray => x.data.toList) h
    simpa using this
  · rintro rfl; rfl

theorem cut_space (s : B) (w : World) : Calls Tryz.prog 96 #[.string (bs s), .string ⟨#[32]⟩] w fun e w' => e = .returned (if s.head? = some 32 then .tuple #[.string (bs s.tail), .bool true] else .tuple #[.string (bs s), .bool false]) ∧ w' = w := by
  refine (Any.strings_CutPrefix Tryz.cpLays (bs s) ⟨#[32]⟩ w).mono ?_
  rintro e w' ⟨rfl, rfl⟩
  refine ⟨?_, rfl⟩
  rw [bs_list]
  cases s with
  | nil => rfl
  | cons c t =>
    by_cases hc : c = 32
    · subst hc
      simp [Lib.trimPrefix, Lib.hasPrefix, List.isPrefixOf]
    · have : ((32 : UInt8) == c) = false := by simpa using fun q => hc q.symm
      simp [Lib.trimPrefix, Lib.hasPrefix, List.isPrefixOf, hc, this]

theorem line_put {w : World} {p : Nat} {s : B} (h : LineAt w p s) (t : B) : LineAt (w.setCell ⟨p, 0, none⟩ (.string (bs t))) p t := Go.Mine.heap_setCell_same h _
theorem line_turn {w : World} {p : Nat} (v : Value) : Turned (· = p) w (w.setCell ⟨p, 0, none⟩ v) := Turned.setCell (S := (· = p)) (p := ⟨p, 0, none⟩) rfl v

set_option maxRecDepth 100000 in
theorem blank_ok (p : Nat) (t : B) (w : World) (h : LineAt w p (32 :: t)) : Calls Tryz.prog 84 #[pt p] w fun e w' => e = .returned (.tuple #[]) ∧ w' = w.setCell ⟨p, 0, none⟩ (.string (bs t)) := by
  have hc := cut_space (32 :: t) w
  rw [if_pos (by rfl), List.tail_cons] at hc
  have c0 := cell_of h 0 _ rfl
  have f0 := free_of h 0
  have l0 := lt_of_block h
  clear h
  generalize bs (32 :: t) = x at *
  generalize bs t = y at *
  go_enter Tryz.func84, Tryz.ntmps84
  go_wp2_with (go_at_call 96; (with_reducible refine hc.mono ?_); rintro e w1 ⟨rfl, rfl⟩)
  go_end0
  exact ⟨rfl, rfl⟩

set_option maxRecDepth 100000 in
theorem blank_no (p : Nat) (s : B) (w : World) (h : LineAt w p s) (hs : s.head? ≠ some 32) : Calls Tryz.prog 84 #[pt p] w fun e w' => e = .panicked [wrongE] ∧ Turned (fun _ => False) w w' := by
  have hc := cut_space s w
  rw [if_neg hs] at hc
  have c0 := cell_of h 0 _ rfl
  have f0 := free_of h 0
  have l0 := lt_of_block h
  clear h hs
  generalize bs s = x at *
  go_enter Tryz.func84, Tryz.ntmps84
  go_wp2_with (go_at_call 96; (with_reducible refine hc.mono ?_); rintro e w1 ⟨rfl, rfl⟩)
  exact ⟨rfl, rfl, Turned.refl _ _⟩

set_option maxRecDepth 100000 in
theorem more_any (p : Nat) (s : B) (w : World) (h : LineAt w p s) : Calls Tryz.prog 53 #[pt p] w fun e w' => e = .returned (.bool (decide (s ≠ []))) ∧ w' = w := by
  have c0 := cell_of h 0 _ rfl
  have f0 := free_of h 0
  have l0 := lt_of_block h
  clear h
  by_cases hs : s = []
  · subst hs
    rw [show decide (([] : B) ≠ []) = false by simp]
    go_enter Tryz.func53, Tryz.ntmps53
    go_wp2
    go_ret
    exact ⟨rfl, rfl⟩
  · rw [show decide (s ≠ []) = true by simp [hs]]
    have hne : bs s ≠ ⟨#[]⟩ := fun q => hs ((bs_nil s).1 q)
    have hn : (bs s).toList.isEmpty = false := by
      rw [ByteArray.toList_eq, bs_list]
      cases s with
      | nil => exact absurd rfl hs
      | cons c t => rfl
    clear hs hne
    generalize bs s = x at *
    go_enter Tryz.func53, Tryz.ntmps53
    go_wp2
    go_ret
    exact ⟨rfl, rfl⟩

/-! ### up to a blank -/
theorem index_tok (s : B) : (32 ∈ s ∧ Lib.indexByte s 32 = ((tok s).length : Int) ∧ (tok s).length < s.length) ∨ (32 ∉ s ∧ Lib.indexByte s 32 = -1 ∧ tok s = s) := by
  have hta := congrArg List.length (tok_aft s)
  rw [List.length_append] at hta
  by_cases h : (32 : UInt8) ∈ s
  · left
    refine ⟨h, ?_, ?_⟩
    · induction s with
      | nil => simp at h
      | cons c t ih =>
        by_cases hc : c = 32
        · subst hc; simp [Lib.indexByte, tok]
        · have ht : (32 : UInt8) ∈ t := by
            rcases List.mem_cons.1 h with q | q
            · exact absurd q.symm hc
            · exact q
          have hta' := congrArg List.length (tok_aft t)
          rw [List.length_append] at hta'
          have := ih hta' ht
          have e : tok (c :: t) = c :: tok t := by simp [tok, hc]
          rw [e, Lib.indexByte, if_neg (by simpa using hc), this]
          have : ((((tok t).length : Int)) == -1) = false := by simp
          rw [this]
          simp
    · rcases aft_head s with h2 | h2
      · exfalso
        have h3 := tok_aft s
        rw [h2, List.append_nil] at h3
        have h4 : ∀ c ∈ tok s, c ≠ 32 := by
          intro c hc
          unfold tok at hc
          have := List.all_takeWhile (l := s) (p := fun c => c != 32)
          rw [List.all_eq_true] at this
          simpa using this c hc
        rw [h3] at h4
        exact h4 32 h rfl
      · cases h3 : aft s with
        | nil => rw [h3] at h2; simp at h2
        | cons c t => rw [h3] at hta; simp at hta; omega
  · right
    have h4 : tok s = s := by
      clear hta
      induction s with
      | nil => rfl
      | cons c t ih =>
        simp only [List.mem_cons, not_or] at h
        have e : tok (c :: t) = c :: tok t := by
          have : c ≠ 32 := fun q => h.1 q.symm
          simp [tok, this]
        rw [e, ih h.2]
    refine ⟨h, ?_, h4⟩
    clear hta h4
    induction s with
    | nil => rfl
    | cons c t ih =>
      simp only [List.mem_cons, not_or] at h
      rw [Lib.indexByte, if_neg (by simpa using fun q => h.1 q.symm), ih h.2]
      rfl

theorem ex_take (s : B) (k : Nat) (h : k ≤ s.length) : (bs s).extract 0 k = bs (s.take k) := by
  apply ByteArray.ext
  simp [ByteArray.data_extract]
theorem ex_drop (s : B) (k : Nat) : (bs s).extract k (bs s).size = bs (s.drop k) := by
  apply ByteArray.ext
  rw [bs_size]
  simp only [ByteArray.data_extract, List.extract_toArray]
  rw [List.extract_eq_take_drop, List.take_of_length_le (by simp)]
theorem sl_to (s : B) (k : Nat) (h : k ≤ s.length) (W : World) : (Instr.slice 9 (.string (bs s)) none (some (.int .i64 (k : Nat))) none).run Tryz.prog W = .ok (.string (bs (s.take k))) W := by
  have := run_slice_string_h (P := Tryz.prog) W 9 (bs s) Tryz.underlying9 .i64 (k : Nat) (by omega) (by rw [bs_size]; omega)
  rw [Int.toNat_natCast, ex_take s k h] at this
  exact this
theorem sl_from (s : B) (k : Nat) (h : k ≤ s.length) (W : World) : (Instr.slice 9 (.string (bs s)) (some (.int .i64 (k : Nat))) none none).run Tryz.prog W = .ok (.string (bs (s.drop k))) W := by
  have := run_slice_string_l (P := Tryz.prog) W 9 (bs s) Tryz.underlying9 .i64 (k : Nat) (by omega) (by rw [bs_size]; omega)
  rw [Int.toNat_natCast, ex_drop s k] at this
  exact this
theorem take_tok (s : B) : s.take (tok s).length = tok s := by
  have h := tok_aft s
  generalize tok s = a at *
  generalize aft s = b at *
  subst h
  simp
theorem drop_tok (s : B) : s.drop (tok s).length = aft s := by
  have h := tok_aft s
  generalize tok s = a at *
  generalize aft s = b at *
  subst h
  simp

theorem ib_any (s : B) (w : World) : Calls Tryz.prog 83 #[.string (bs s), .int .u8 32] w fun e w' => e = .returned (.int .i64 (Lib.indexByte s 32)) ∧ w' = w := by
  refine (Any.strings_IndexByte Tryz.ibLays (bs s) 32 w).mono ?_
  rintro e w' ⟨rfl, rfl⟩
  rw [bs_list]
  exact ⟨rfl, rfl⟩

set_option maxRecDepth 100000 in
theorem name_any (p : Nat) (s : B) (w : World) (h : LineAt w p s) : Calls Tryz.prog 49 #[pt p] w fun e w' => e = .returned (.string (bs (tok s))) ∧ w' = w.setCell ⟨p, 0, none⟩ (.string (bs (aft s))) := by
  have hib := ib_any s w
  have c0 := cell_of h 0 _ rfl
  have f0 := free_of h 0
  have l0 := lt_of_block h
  clear h
  have hk : (tok s).length ≤ s.length := by have := congrArg List.length (tok_aft s); simp at this; omega
  have s1 := sl_to s (tok s).length hk
  have s2 := sl_from s (tok s).length hk
  rw [take_tok] at s1
  rw [drop_tok] at s2
  rcases index_tok s with ⟨-, h2, h3⟩ | ⟨-, h2, h3⟩
  · rw [h2] at hib
    have hd : decide (((tok s).length : Int) < 0) = false := by simp
    generalize bs (tok s) = y at *
    generalize (tok s).length = k at *
    generalize bs s = x at *
    generalize bs (aft s) = z at *
    clear h2 h3 hk
    go_enter Tryz.func49, Tryz.ntmps49
    go_wp2_with (go_at_call 83; (with_reducible refine hib.mono ?_); rintro e w1 ⟨rfl, rfl⟩)
    go_ret
    exact ⟨rfl, rfl⟩
  · rw [h2] at hib
    have hsz := bs_size s
    rw [h3] at s1 s2 ⊢
    have HS : Hid ((bs s).size = s.length) := hsz
    generalize bs (aft s) = z at *
    rw [← hsz] at s1 s2
    generalize bs s = x at *
    clear h2 h3 hk hsz HS
    go_enter Tryz.func49, Tryz.ntmps49
    go_wp2_with (go_at_call 83; (with_reducible refine hib.mono ?_); rintro e w1 ⟨rfl, rfl⟩)
    go_ret
    exact ⟨rfl, rfl⟩
end Go.Proofs.YteblabpplaaddaaGreatDoor
