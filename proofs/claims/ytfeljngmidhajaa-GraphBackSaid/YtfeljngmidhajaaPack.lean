/- The writer: numbers and bytes laid one behind the other. -/
import Derived.Test.YtfeljngmidhajaaSeal
import Derived.Deep.RegionHeld3
namespace Go.Proofs.Ytfeljngmidhajaa
open Go.RowKit Go.Mine

section
variable {P : Program} {w : World} {S : Nat → Prop} {e t tx : TypeId} {size bytes : Nat} {v x z : Value} {xs news : List Value} {n m : Nat}

theorem step_append {ops : Array Oper} {o : Oper} {a : Act} {K : Act → World → Prop} {Q : Exit → Act → World → Prop} {E : Prop} (hgd : o.guard = none) (so xo : Operand) (t tx : TypeId)
    (ho : o.op = .call { callee := .builtin .append, args := #[so, xo], argTypes := #[t, tx] })
    (h : Sl w S e size v xs n) (ht : P.underlying t = some (.slice e)) (hinf : (P.info? e).map (fun i => (i.zero, i.size, i.bytes)) = some (some z, size, bytes)) (hzs : z.cells.size = size) (hs0 : 0 < size)
    (hs : a.eval so = v) (x : Value) (hx : a.eval xo = x) (hsrc : Src P size tx x m news w) (h63 : n + m ≤ maxLen) (hbytes : (n + m) * bytes ≤ 140737488355328)
    (hK : ∀ v' w', Sl w' (More S w) e size v' (xs ++ news) (n + m) → Turned S w w' → K (a.put o.dst v') w') :
    if Region.wanted o (yielded ops a.tmps) = true then Oper.wp P o a w K Q else E := by
  have hw : Region.wanted o (yielded ops a.tmps) = true := by simp [Region.wanted, hgd]
  rw [if_pos hw]
  obtain ⟨i, hi, hz0, hz1, hz2⟩ := info_parts hinf
  obtain ⟨v', w', hrun, r1, r2⟩ := h.append ht hi hz0 hz1 hz2 hzs hs0 hsrc h63 hbytes o.type
  unfold Oper.wp
  simp [execOp, ho, resolve, invoke, builtin, hs, hx, hrun, Result.andThen]
  exact hK _ _ r1 r2
end

/-- bytes as cells -/
def bcells (bs : List UInt8) : List Value := bs.map fun b => Value.int .u8 (b.toNat : Nat)
theorem bcells_length (bs : List UInt8) : (bcells bs).length = bs.length := by simp [bcells]
theorem bcells_append (a b : List UInt8) : bcells (a ++ b) = bcells a ++ bcells b := by simp [bcells]

/-- a writer at p that has laid the bytes bs; its blocks are among S -/
def Wr (w : World) (S : Nat → Prop) (p : Nat) (bs : List UInt8) : Prop :=
  S p ∧ ∃ (v : Value) (R : Nat → Prop), Blk w p #[v] 104 ∧ Sl w R 5 1 v (bcells bs) bs.length ∧ ¬ R p ∧ (∀ b, R b → S b)

theorem Wr.widen {w : World} {S T : Nat → Prop} {p : Nat} {bs : List UInt8} (h : Wr w S p bs) (hS : ∀ b, S b → T b) : Wr w T p bs := by
  obtain ⟨h1, v, R, h2, h3, h4, h5⟩ := h
  exact ⟨hS p h1, v, R, h2, h3, h4, fun b q => hS b (h5 b q)⟩
theorem Wr.turned {w w' : World} {S T : Nat → Prop} {p : Nat} {bs : List UInt8} (h : Wr w S p bs) (ht : Turned T w w') (hS : ∀ b, S b → ¬ T b) : Wr w' S p bs := by
  obtain ⟨h1, v, R, h2, h3, h4, h5⟩ := h
  exact ⟨h1, v, R, h2.turned ht (hS p h1), h3.turned ht (fun b q => hS b (h5 b q)), h4, h5⟩

theorem info5 : (Try.prog.info? 5).map (fun i => (i.zero, i.size, i.bytes)) = some (some (.int .u8 0), 1, 1) := by kernel_rfl

/-- what an append and the store of its result make of a writer -/
theorem Wr.put {w w1 w2 : World} {S R : Nat → Prop} {p : Nat} {bs cs : List UInt8} {v' : Value} (hp : S p) (hR : ∀ b, R b → S b) (hpR : ¬ R p) (hlt : p < w.heap.size)
    (hsl : Sl w1 (More R w) 5 1 v' (bcells bs ++ bcells cs) (bs.length + cs.length)) (ht : Turned S w w2) (ht2 : Turned (· = p) w1 w2) (hc : Blk w2 p #[v'] 104) :
    Wr w2 (More S w) p (bs ++ cs) ∧ Turned S w w2 := by
  refine ⟨⟨.inl hp, v', More R w, hc, ?_, fun q => q.elim hpR fun q => by omega, fun b q => q.elim (fun q => .inl (hR b q)) .inr⟩, ht⟩
  rw [bcells_append, List.length_append]
  exact hsl.turned ht2 fun b q z => by subst z; exact q.elim hpR fun q => by omega
end Go.Proofs.Ytfeljngmidhajaa
