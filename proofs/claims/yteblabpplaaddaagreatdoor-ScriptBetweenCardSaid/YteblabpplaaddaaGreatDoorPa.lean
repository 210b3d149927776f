/- A script read: what is given up is caught. -/
import Derived.Test.YteblabpplaaddaaGreatDoorCr
import Derived.Test.YteblabpplaaddaaGreatDoorIt
import Derived.RecoverIn
import Derived.RangeFuncLeaves
import Derived.Shelf.Strings.Count
import Derived.Laws.Pointers
set_option linter.unusedVariables false
set_option linter.unusedSimpArgs false
namespace Go.Proofs.YteblabpplaaddaaGreatDoor
open Go.RowKit Go.Mine Go.Mine.Sc

set_option maxRecDepth 100000 in
theorem catch_idle (n p q : Nat) (w : World) :
    CallsDIn Fence.wide n Tryz.prog 28 #[pt p, pt q] .returning w fun e u' w' => e = .returned (.tuple #[]) ∧ u' = .returning ∧ w' = w := by
  refine callsDIn_of_wpSIn Tryz.func28 rfl trivial fun c₀ cs hu => ?_
  apply wpSIn_seq
  apply wpSIn_region
  simp [wpOpsSIn, go_sem, recoverD, hu, Tryz.ntmps28, Exit.thenS]
  apply wpSIn_seq
  apply wpSIn_region
  simp [wpOpsSIn, go_sem, Exit.thenS]
  refine wpSIn_cond (t := false) (by simp [Act.eval, Array.replicate]) ?_
  simp only [Bool.false_eq_true, if_false]
  refine wpSIn_of_wpIn rfl (wpIn_skip ?_)
  cases c₀
  simp_all [bodyPostS, results, Tryz.results28]

set_option maxRecDepth 100000 in
set_option maxHeartbeats 1000000 in
theorem catch_wrong (n p q : Nat) (x y : Value) (older : List PanicEntry) (w : World) (hp : w.heap[p]? = some (.cells #[x] 29 (0, 0))) (hq : w.heap[q]? = some (.cells #[y] 30 (0, 0))) (hne : p ≠ q) :
    CallsDIn Fence.wide n Tryz.prog 28 #[pt p, pt q] (.panicking (wrongE :: older)) w fun e u' w' =>
      e = .returned (.tuple #[]) ∧ u' = .panicking ({ v := .iface 61 (.agg #[]), recovered := true } :: older) ∧ w'.heap[p]? = some (.cells #[.slice none 0 0] 29 (0, 0)) ∧ w'.heap[q]? = some (.cells #[.int .i64 14] 30 (0, 0)) ∧ Turned (fun b => b = p ∨ b = q) w w' := by
  refine callsDIn_of_wpSIn Tryz.func28 rfl trivial fun c₀ cs hu => ?_
  apply wpSIn_seq
  apply wpSIn_region
  simp [wpOpsSIn, go_sem, recoverD, hu, Tryz.ntmps28, Exit.thenS]
  apply wpSIn_seq
  apply wpSIn_region
  simp [wpOpsSIn, go_sem, Exit.thenS]
  refine wpSIn_cond (t := true) (by simp [Act.eval, Array.replicate]) ?_
  simp only [if_true]
  have hta : ∀ W, (Instr.typeAssert (.iface 61 (.agg #[])) 20 61 true).run Tryz.prog W = .ok (.tuple #[.agg #[], .bool true]) W := fun W => by kernel_rfl
  have c0 := cell_of hp 0 _ rfl
  have f0 := free_of hp 0
  have d0 := cell_of hq 0 _ rfl
  have g0 := free_of hq 0
  have HP : Hid (w.heap[p]? = some (.cells #[x] 29 (0, 0)) ∧ w.heap[q]? = some (.cells #[y] 30 (0, 0)) ∧ p ≠ q) := ⟨hp, hq, hne⟩
  have hlp := lt_of_block hp
  have hlq := lt_of_block hq
  refine wpSIn_of_wpIn rfl ?_
  clear hp hq
  simp only [Array.replicate, List.replicate, List.setIfInBounds_toArray, List.append_toArray, List.set_cons_succ, List.set_cons_zero, List.cons_append, List.nil_append]
  gi_wp2
  have a1 : (w.setCell ⟨p, 0, none⟩ (.slice none 0 0)).heap[p]? = some (.cells #[.slice none 0 0] 29 (0, 0)) := Go.Mine.heap_setCell_same HP.out.1 _
  have a2 : (w.setCell ⟨p, 0, none⟩ (.slice none 0 0)).heap[q]? = some (.cells #[y] 30 (0, 0)) := (Go.Mine.heap_setCell_ne _ (fun z => HP.out.2.2 z.symm)).trans HP.out.2.1
  have a3 : ((w.setCell ⟨p, 0, none⟩ (.slice none 0 0)).setCell ⟨q, 0, none⟩ (.int .i64 14)).heap[p]? = some (.cells #[.slice none 0 0] 29 (0, 0)) := (Go.Mine.heap_setCell_ne _ HP.out.2.2).trans a1
  have a4 : ((w.setCell ⟨p, 0, none⟩ (.slice none 0 0)).setCell ⟨q, 0, none⟩ (.int .i64 14)).heap[q]? = some (.cells #[.int .i64 14] 30 (0, 0)) := Go.Mine.heap_setCell_same a2 _
  have a5 : Turned (fun b => b = p ∨ b = q) w (((w.setCell ⟨p, 0, none⟩ (.slice none 0 0)).setCell ⟨q, 0, none⟩ (.int .i64 14)).alloc (.cells #[] 61)) :=
    (((Turned.refl (fun b => b = p ∨ b = q) w).set (p := ⟨p, 0, none⟩) (.inl rfl) _).set (p := ⟨q, 0, none⟩) (.inr rfl) _).new _
  have key : (((w.setCell ⟨p, 0, none⟩ (.slice none 0 0)).setCell ⟨q, 0, none⟩ (.int .i64 14)).alloc (.cells #[] 61)).heap[p]? = some (.cells #[.slice none 0 0] 29 (0, 0)) ∧
    (((w.setCell ⟨p, 0, none⟩ (.slice none 0 0)).setCell ⟨q, 0, none⟩ (.int .i64 14)).alloc (.cells #[] 61)).heap[q]? = some (.cells #[.int .i64 14] 30 (0, 0)) ∧
    Turned (fun b => b = p ∨ b = q) w (((w.setCell ⟨p, 0, none⟩ (.slice none 0 0)).setCell ⟨q, 0, none⟩ (.int .i64 14)).alloc (.cells #[] 61)) := ⟨Go.Mine.heap_alloc_old a3, Go.Mine.heap_alloc_old a4, a5⟩
  generalize (((w.setCell ⟨p, 0, none⟩ (.slice none 0 0)).setCell ⟨q, 0, none⟩ (.int .i64 14)).alloc (.cells #[] 61)) = wE at *
  simpa [bodyPostS, results, Tryz.results28] using key
end Go.Proofs.YteblabpplaaddaaGreatDoor
