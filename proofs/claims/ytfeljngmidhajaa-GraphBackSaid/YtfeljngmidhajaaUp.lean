/- What Build is made of: the writer above a bound, a cut of the chunks, a copy of any list. -/
import Derived.Test.YtfeljngmidhajaaSortN
import Derived.Test.YtfeljngmidhajaaPackX
namespace Go.Proofs.Ytfeljngmidhajaa
open Go.RowKit Go.Mine

theorem more_up {w : World} {B : Nat} (hB : B ≤ w.heap.size) (b : Nat) (q : More (fun b => B ≤ b) w b) : B ≤ b := q.elim id fun q => Nat.le_trans hB q

theorem raw_up {B p : Nat} {bs : List UInt8} (s : ByteArray) (w : World) (h : Wr w (fun b => B ≤ b) p bs) (hB : B ≤ w.heap.size) (hL : bs.length + s.size ≤ 1099511627776) :
    Calls Try.prog 44 #[pt p, .string s] w fun e w' => e = .returned (.tuple #[]) ∧ Wr w' (fun b => B ≤ b) p (bs ++ s.data.toList) ∧ Turned (fun b => B ≤ b) w w' :=
  (raw_any s w h hL).mono fun _ _ q => ⟨q.1, q.2.1.widen (more_up hB), q.2.2⟩
theorem u8_up {B p : Nat} {bs : List UInt8} (v : Nat) (w : World) (h : Wr w (fun b => B ≤ b) p bs) (hB : B ≤ w.heap.size) (hv : v < 256) (hL : bs.length + 1 ≤ 1099511627776) :
    Calls Try.prog 45 #[pt p, .int .u8 v] w fun e w' => e = .returned (.tuple #[]) ∧ Wr w' (fun b => B ≤ b) p (bs ++ num v 1) ∧ Turned (fun b => B ≤ b) w w' :=
  (u8_any v w h hv hL).mono fun _ _ q => ⟨q.1, q.2.1.widen (more_up hB), q.2.2⟩
theorem u32_up {B p : Nat} {bs : List UInt8} (v : Nat) (w : World) (h : Wr w (fun b => B ≤ b) p bs) (hB : B ≤ w.heap.size) (hv : v < 4294967296) (hL : bs.length + 4 ≤ 1099511627776) :
    Calls Try.prog 46 #[pt p, .int .u32 v] w fun e w' => e = .returned (.tuple #[]) ∧ Wr w' (fun b => B ≤ b) p (bs ++ num v 4) ∧ Turned (fun b => B ≤ b) w w' :=
  (u32_any v w h hv hL).mono fun _ _ q => ⟨q.1, q.2.1.widen (more_up hB), q.2.2⟩

theorem chs_to {w : World} {a : Option Addr} {cap : Nat} {l : List Ch} (h : ChIs w a cap l) (j : Nat) (hj : j ≤ l.length) (W : World) :
    (Instr.slice 22 (.slice a l.length cap) none (some (.int .i64 j)) none).run Try.prog W = .ok (.slice a j cap) W := by
  obtain ⟨i, hi, hz0, hz1, hz2⟩ := info_parts info31
  have hjc : j ≤ cap := by have := h.1; omega
  simp [Instr.slice, Instr.sliceBounds, Instr.sliceBound, asIntOf, run_underlying Try.underlying22, sizeOf, typeInfo, hi, hjc, Result.andThen]
  intro _
  cases a with
  | none => rfl
  | some ad => simp [Addr.add]

theorem ChIs.take {w : World} {a : Option Addr} {cap : Nat} {l : List Ch} (h : ChIs w a cap l) (j : Nat) (hj : j ≤ l.length) : ChIs w a cap (l.take j) := by
  refine ⟨by have := h.1; simp; omega, h.2.1, fun c hc => h.2.2.1 c (List.mem_of_mem_take hc), fun h0 => ?_⟩
  obtain ⟨b, off, h1, h2, h3⟩ := h.2.2.2 (by simp at h0; omega)
  refine ⟨b, off, h1, h2, fun i c hc => h3 i c ?_⟩
  rw [List.getElem?_take] at hc
  split at hc
  · exact hc
  · simp at hc

set_option maxRecDepth 100000 in
theorem clone_nil (cap : Nat) (w : World) : Calls Try.prog 39 #[.slice none 0 cap] w fun e w' => e = .returned (.slice none 0 0) ∧ w = w' := by
  have hq : ∀ w', (binOp .eql 22 (.slice none 0 cap) (.slice none 0 0)).run Try.prog w' = .ok (.bool true) w' := fun w' => Lib.run_eql_slice_nil w' 22 31 none 0 cap 0 0 Try.underlying22
  go_enter Try.func39, Try.ntmps39
  go_wp2
  go_ret
  exact ⟨rfl, rfl⟩

theorem clone_all (a : Option Addr) (cap : Nat) (l : List Ch) (w : World) (h : ChIs w a cap l) (hl : l.length ≤ 100000) :
    Calls Try.prog 39 #[.slice a l.length cap] w fun e w' => ∃ v, e = .returned v ∧ Sl w' (fun b => w.heap.size ≤ b) 31 2 v (ccells l) l.length ∧ Turned (fun _ => False) w w' := by
  cases a with
  | some ad => exact clone_any (some ad) cap l w h (by simp) hl
  | none =>
    have : l = [] := by
      apply List.eq_nil_of_length_eq_zero
      apply Classical.byContradiction
      intro q
      obtain ⟨b, off, h1, -⟩ := h.2.2.2 (by omega)
      simp at h1
    subst this
    refine (clone_nil cap w).mono ?_
    rintro e w' ⟨rfl, rfl⟩
    exact ⟨_, rfl, Sl.nil _ _ _ _, Turned.refl _ _⟩
end Go.Proofs.Ytfeljngmidhajaa
