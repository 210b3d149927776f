/- Links as cells of a slice that a call owns. -/
import Derived.Test.YtfeljngmidhajaaDoorLnp
namespace Go.Proofs.YtfeljngmidhajaaDoor
open Go.RowKit Go.Mine

def lcells : List Ln → List Value
  | [] => []
  | x :: l => .int .i64 x.1 :: .int .i64 x.2.1 :: .int .u32 (x.2.2 : Nat) :: lcells l
theorem lcells_length (l : List Ln) : (lcells l).length = l.length * 3 := by
  induction l with
  | nil => rfl
  | cons c l ih => simp [lcells, ih]; omega
theorem lcells_append (a b : List Ln) : lcells (a ++ b) = lcells a ++ lcells b := by
  induction a with
  | nil => rfl
  | cons c a ih => simp [lcells, ih]
theorem lcells_get : ∀ (l : List Ln) (i : Nat) (x : Ln), l[i]? = some x → (lcells l)[i * 3]? = some (.int .i64 x.1) ∧ (lcells l)[i * 3 + 1]? = some (.int .i64 x.2.1) ∧ (lcells l)[i * 3 + 2]? = some (.int .u32 (x.2.2 : Nat))
  | [], i, c, h => by simp at h
  | d :: l, 0, c, h => by simp at h; subst h; simp [lcells]
  | d :: l, i + 1, c, h => by
    have := lcells_get l i c (by simpa using h)
    have e1 : (i + 1) * 3 = i * 3 + 1 + 1 + 1 := by omega
    have e2 : (i + 1) * 3 + 1 = i * 3 + 1 + 1 + 1 + 1 := by omega
    have e3 : (i + 1) * 3 + 2 = i * 3 + 2 + 1 + 1 + 1 := by omega
    rw [e3, e2, e1]
    simp only [lcells, List.getElem?_cons_succ]
    exact this
theorem lcells_one (l : List Ln) : ∀ u ∈ lcells l, u.oneCell' = true := by
  induction l with
  | nil => intro u hu; simp [lcells] at hu
  | cons x l ih =>
    intro u hu
    simp only [lcells, List.mem_cons] at hu
    rcases hu with rfl | rfl | rfl | hu
    · rfl
    · rfl
    · rfl
    · exact ih u hu

theorem src_ln (x : Ln) (w : World) : Src Tryd.prog 3 25 (.slice (some ⟨w.heap.size, 0, none⟩) 1 1) 1 (lcells [x]) (w.alloc (.cells #[.int .i64 x.1, .int .i64 x.2.1, .int .u32 (x.2.2 : Nat)] 43)) := by
  refine Src.ofSlice _ Tryd.underlying25 _ 1 1 _ rfl (fun j u hj => ?_) (lcells_one _)
  rw [Addr.add_lit, Nat.zero_add]
  refine cell_of (heap_alloc_last w _) j u ?_
  rcases j with _ | _ | _ | j
  · simpa [lcells] using hj
  · simpa [lcells] using hj
  · simpa [lcells] using hj
  · simp [lcells] at hj

def LnOk (l : List Ln) : Prop := ∀ x ∈ l, I64 x.1 ∧ I64 x.2.1 ∧ x.2.2 < 4294967296

theorem sl_lnIs {w : World} {S : Nat → Prop} {v : Value} {l : List Ln} (h : Sl w S 43 3 v (lcells l) l.length) (hs : LnOk l) : ∃ a cap, v = .slice a l.length cap ∧ LnIs w a cap l := by
  obtain ⟨a, cap, rfl, h1, h2⟩ := h.value
  refine ⟨a, cap, rfl, h1, h2, hs, fun h0 => ?_⟩
  obtain ⟨g, off, cp, hv, -, -, -, hcl, -, hgl⟩ := h.opens h0
  injection hv with e1 _ e3
  refine ⟨g, off, e1, hgl, fun i x hi => ?_⟩
  have hl := (List.getElem?_eq_some_iff.1 hi).1
  obtain ⟨g1, g2, g3⟩ := lcells_get l i x hi
  refine ⟨(hcl (i * 3) (by omega)).trans g1, ?_, ?_⟩
  · rw [Nat.add_assoc]; exact (hcl (i * 3 + 1) (by omega)).trans g2
  · rw [Nat.add_assoc]; exact (hcl (i * 3 + 2) (by omega)).trans g3

/-- what Decode answers -/
def finL : Option (List Ln) → Except Nat (List Ln)
  | none => .error 3
  | some l => .ok l
def decR (t : ByteArray) : Except Nat (List Ln) :=
  if t.size < 10 then .error 2
  else if t.extract 0 5 ≠ ⟨#[80, 68, 71, 77, 1]⟩ then .error 3
  else if (rdNum (t.extract (t.size - 4) t.size) (0, 0) 4).1 ≠ Crc.sum (nums (t.extract 0 (t.size - 4))) then .error 4
  else finL (progL (t.extract 5 (t.size - 4)))

def DecPost (w : World) (r : Except Nat (List Ln)) (e : Ending) (w' : World) : Prop :=
  Turned (fun _ => False) w w' ∧ match r with
    | .error k => e = .returned (.tuple #[.slice none 0 0, .int .i64 (k : Nat)])
    | .ok l => ∃ v, e = .returned (.tuple #[v, .int .i64 0]) ∧ Sl w' (fun b => w.heap.size ≤ b) 43 3 v (lcells l) l.length

def D1 (w : World) (p : Nat) (s : ByteArray) (st : Nat × Nat) (c : Nat) (g : Nat) (lv i : Value) (wr : World) : Prop :=
  ∃ (k : Nat) (S1 : Nat → Prop), k + g = c ∧ i = .int .u8 k ∧ Sl wr S1 43 3 lv (lcells (lnK s st k).1) k ∧ RdIs wr p s (lnK s st k).2 ∧ Turned (· = p) w wr ∧ (∀ b, S1 b → w.heap.size ≤ b ∧ b < wr.heap.size)
end Go.Proofs.YtfeljngmidhajaaDoor
