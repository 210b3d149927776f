/- A node is taken out of the ring of keys, and put at its young end (ints to ints): the blocks that turn. -/
import Derived.Test.YtbhafcmdmpebiaaRows
import Derived.Test.YtbhafcmdmpebiaaLib
import Derived.Test.YtbhafcmdmpebiaaSl
namespace Go.Proofs.Ytbhafcmdmpebiaa
open Go.RowKit Go.Mine

abbrev pt (b : Nat) : Value := .pointer (some ⟨b, 0, none⟩)
def Blk (w : World) (b : Nat) (c : Array Value) (T : TypeId) : Prop := w.heap[b]? = some (.cells c T (0, 0))

set_option maxHeartbeats 1000000 in
theorem unhang_mid (c n p q : Nat) (k0 v0 xk0 xv0 o1 yk0 yv0 n2 : Value) (w : World)
    (hnp : n ≠ p)
    (hnq : n ≠ q)
    (hpq : p ≠ q)
    (hn : Blk w n #[k0, v0, pt p, pt q] 71)
    (hp : Blk w p #[xk0, xv0, o1, pt n] 71)
    (hq : Blk w q #[yk0, yv0, pt n, n2] 71) :
    Calls Try.prog 31 #[pt c, pt n] w fun e w' => e = .returned (.tuple #[]) ∧ Blk w' n #[k0, v0, .pointer none, .pointer none] 71 ∧ Blk w' p #[xk0, xv0, o1, pt q] 71 ∧ Blk w' q #[yk0, yv0, pt p, n2] 71 ∧ Turned (fun b => b = n ∨ b = p ∨ b = q) w w' ∧ w'.heap.size = w.heap.size := by
  have a0 := cell_of hn 2 _ rfl
  have b0 := free_of hn 2
  have a1 := cell_of hn 3 _ rfl
  have b1 := free_of hn 3
  have a2 := cell_of hp 3 _ rfl
  have b2 := free_of hp 3
  have a3 := cell_of hq 2 _ rfl
  have b3 := free_of hq 2
  go_enter Try.func31, Try.ntmps31
  go_wp2
  go_region
  go_wp2
  go_region
  go_wp2
  go_end0
  refine ⟨rfl, ?_, ?_, ?_, ?t, ?_⟩
  case t => repeat (first | exact Turned.refl _ _ | refine Turned.draw ?_ | refine Turned.set ?_ (by simp) _)
  all_goals (unfold Blk at *; simp [heap_setCell_if, heap_drew, hn, hp, hq, hnp, hnq, hpq, hnp.symm, hnq.symm, hpq.symm])

set_option maxHeartbeats 1000000 in
theorem unhang_first (c n q : Nat) (r mp el yo k0 v0 yk0 yv0 n2 : Value) (w : World)
    (hcn : c ≠ n)
    (hcq : c ≠ q)
    (hnq : n ≠ q)
    (hc : Blk w c #[r, mp, el, yo] 62)
    (hn : Blk w n #[k0, v0, .pointer none, pt q] 71)
    (hq : Blk w q #[yk0, yv0, pt n, n2] 71) :
    Calls Try.prog 31 #[pt c, pt n] w fun e w' => e = .returned (.tuple #[]) ∧ Blk w' c #[r, mp, pt q, yo] 62 ∧ Blk w' n #[k0, v0, .pointer none, .pointer none] 71 ∧ Blk w' q #[yk0, yv0, .pointer none, n2] 71 ∧ Turned (fun b => b = c ∨ b = n ∨ b = q) w w' ∧ w'.heap.size = w.heap.size := by
  have a0 := cell_of hc 2 _ rfl
  have b0 := free_of hc 2
  have a1 := cell_of hn 2 _ rfl
  have b1 := free_of hn 2
  have a2 := cell_of hn 3 _ rfl
  have b2 := free_of hn 3
  have a3 := cell_of hq 2 _ rfl
  have b3 := free_of hq 2
  go_enter Try.func31, Try.ntmps31
  go_wp2
  go_region
  go_wp2
  go_end0
  refine ⟨rfl, ?_, ?_, ?_, ?t, ?_⟩
  case t => repeat (first | exact Turned.refl _ _ | refine Turned.draw ?_ | refine Turned.set ?_ (by simp) _)
  all_goals (unfold Blk at *; simp [heap_setCell_if, heap_drew, hc, hn, hq, hcn, hcq, hnq, hcn.symm, hcq.symm, hnq.symm])

set_option maxHeartbeats 1000000 in
theorem unhang_last (c n p : Nat) (r mp el yo k0 v0 xk0 xv0 o1 : Value) (w : World)
    (hcn : c ≠ n)
    (hcp : c ≠ p)
    (hnp : n ≠ p)
    (hc : Blk w c #[r, mp, el, yo] 62)
    (hn : Blk w n #[k0, v0, pt p, .pointer none] 71)
    (hp : Blk w p #[xk0, xv0, o1, pt n] 71) :
    Calls Try.prog 31 #[pt c, pt n] w fun e w' => e = .returned (.tuple #[]) ∧ Blk w' c #[r, mp, el, pt p] 62 ∧ Blk w' n #[k0, v0, .pointer none, .pointer none] 71 ∧ Blk w' p #[xk0, xv0, o1, .pointer none] 71 ∧ Turned (fun b => b = c ∨ b = n ∨ b = p) w w' ∧ w'.heap.size = w.heap.size := by
  have a0 := cell_of hc 3 _ rfl
  have b0 := free_of hc 3
  have a1 := cell_of hn 2 _ rfl
  have b1 := free_of hn 2
  have a2 := cell_of hn 3 _ rfl
  have b2 := free_of hn 3
  have a3 := cell_of hp 3 _ rfl
  have b3 := free_of hp 3
  go_enter Try.func31, Try.ntmps31
  go_wp2
  go_region
  go_wp2
  go_end0
  refine ⟨rfl, ?_, ?_, ?_, ?t, ?_⟩
  case t => repeat (first | exact Turned.refl _ _ | refine Turned.draw ?_ | refine Turned.set ?_ (by simp) _)
  all_goals (unfold Blk at *; simp [heap_setCell_if, heap_drew, hc, hn, hp, hcn, hcp, hnp, hcn.symm, hcp.symm, hnp.symm])

set_option maxHeartbeats 1000000 in
theorem unhang_only (c n : Nat) (r mp el yo k0 v0 : Value) (w : World)
    (hcn : c ≠ n)
    (hc : Blk w c #[r, mp, el, yo] 62)
    (hn : Blk w n #[k0, v0, .pointer none, .pointer none] 71) :
    Calls Try.prog 31 #[pt c, pt n] w fun e w' => e = .returned (.tuple #[]) ∧ Blk w' c #[r, mp, .pointer none, .pointer none] 62 ∧ Blk w' n #[k0, v0, .pointer none, .pointer none] 71 ∧ Turned (fun b => b = c ∨ b = n) w w' ∧ w'.heap.size = w.heap.size := by
  have a0 := cell_of hc 2 _ rfl
  have b0 := free_of hc 2
  have a1 := cell_of hc 3 _ rfl
  have b1 := free_of hc 3
  have a2 := cell_of hn 2 _ rfl
  have b2 := free_of hn 2
  have a3 := cell_of hn 3 _ rfl
  have b3 := free_of hn 3
  go_enter Try.func31, Try.ntmps31
  go_wp2
  go_end0
  refine ⟨rfl, ?_, ?_, ?t, ?_⟩
  case t => repeat (first | exact Turned.refl _ _ | refine Turned.draw ?_ | refine Turned.set ?_ (by simp) _)
  all_goals (unfold Blk at *; simp [heap_setCell_if, hc, hn, hcn, hcn.symm])

set_option maxHeartbeats 1000000 in
theorem hang_first (c n : Nat) (r mp k0 v0 o x : Value) (w : World)
    (hcn : c ≠ n)
    (hc : Blk w c #[r, mp, x, .pointer none] 62)
    (hn : Blk w n #[k0, v0, o, .pointer none] 71) :
    Calls Try.prog 32 #[pt c, pt n] w fun e w' => e = .returned (.tuple #[]) ∧ Blk w' c #[r, mp, pt n, pt n] 62 ∧ Blk w' n #[k0, v0, .pointer none, .pointer none] 71 ∧ Turned (fun b => b = c ∨ b = n) w w' ∧ w'.heap.size = w.heap.size := by
  have a0 := cell_of hc 2 _ rfl
  have b0 := free_of hc 2
  have a1 := cell_of hc 3 _ rfl
  have b1 := free_of hc 3
  have a2 := cell_of hn 2 _ rfl
  have b2 := free_of hn 2
  go_enter Try.func32, Try.ntmps32
  go_wp2
  go_end0
  refine ⟨rfl, ?_, ?_, ?t, ?_⟩
  case t => repeat (first | exact Turned.refl _ _ | refine Turned.draw ?_ | refine Turned.set ?_ (by simp) _)
  all_goals (unfold Blk at *; simp [heap_setCell_if, hc, hn, hcn, hcn.symm])

set_option maxHeartbeats 1000000 in
theorem hang_more (c n p : Nat) (r mp el k0 v0 o xk0 xv0 o1 : Value) (w : World)
    (hcn : c ≠ n)
    (hcp : c ≠ p)
    (hnp : n ≠ p)
    (hc : Blk w c #[r, mp, el, pt p] 62)
    (hn : Blk w n #[k0, v0, o, .pointer none] 71)
    (hp : Blk w p #[xk0, xv0, o1, .pointer none] 71) :
    Calls Try.prog 32 #[pt c, pt n] w fun e w' => e = .returned (.tuple #[]) ∧ Blk w' c #[r, mp, el, pt n] 62 ∧ Blk w' n #[k0, v0, pt p, .pointer none] 71 ∧ Blk w' p #[xk0, xv0, o1, pt n] 71 ∧ Turned (fun b => b = c ∨ b = n ∨ b = p) w w' ∧ w'.heap.size = w.heap.size := by
  have a0 := cell_of hc 3 _ rfl
  have b0 := free_of hc 3
  have a1 := cell_of hn 2 _ rfl
  have b1 := free_of hn 2
  have a2 := cell_of hp 3 _ rfl
  have b2 := free_of hp 3
  go_enter Try.func32, Try.ntmps32
  go_wp2
  go_end0
  refine ⟨rfl, ?_, ?_, ?_, ?t, ?_⟩
  case t => repeat (first | exact Turned.refl _ _ | refine Turned.draw ?_ | refine Turned.set ?_ (by simp) _)
  all_goals (unfold Blk at *; simp [heap_setCell_if, hc, hn, hp, hcn, hcp, hnp, hcn.symm, hcp.symm, hnp.symm])


end Go.Proofs.Ytbhafcmdmpebiaa
