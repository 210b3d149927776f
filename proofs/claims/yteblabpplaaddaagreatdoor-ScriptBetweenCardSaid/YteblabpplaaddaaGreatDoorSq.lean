/- Commands written over: what keeps its shape: plain. -/
import Derived.Test.YteblabpplaaddaaGreatDoorPb
set_option linter.unusedVariables false
set_option linter.unusedSimpArgs false
namespace Go.Mine
open Go.RowKit

/-- no block changes its type or its size; those outside S do not change -/
structure Like (S : Nat → Prop) (w w' : World) : Prop where
  turn : Turned S w w'
  shape : ∀ (b : Nat) (cur : Array Value) (t : TypeId), w.heap[b]? = some (.cells cur t (0, 0)) → ∃ cur' : Array Value, w'.heap[b]? = some (.cells cur' t (0, 0)) ∧ cur'.size = cur.size
theorem Like.refl (S : Nat → Prop) (w : World) : Like S w w := ⟨Turned.refl S w, fun _ cur _ h => ⟨cur, h, rfl⟩⟩
theorem Like.trans {S : Nat → Prop} {a b c : World} (h : Like S a b) (k : Like S b c) : Like S a c :=
  ⟨h.turn.trans k.turn fun _ _ q => q, fun x cur t hx => by
    obtain ⟨c1, h1, e1⟩ := h.shape x cur t hx
    obtain ⟨c2, h2, e2⟩ := k.shape x c1 t h1
    exact ⟨c2, h2, by omega⟩⟩
theorem Like.draw {S : Nat → Prop} {a b : World} (h : Like S a b) : Like S a b.drew := ⟨h.turn.draw, fun x cur t hx => h.shape x cur t hx⟩
theorem Like.widen {S T : Nat → Prop} {a b : World} (h : Like S a b) (hS : ∀ b, S b → T b) : Like T a b :=
  ⟨⟨h.turn.os, h.turn.tape, h.turn.output, h.turn.size, fun k hk q => h.turn.block k hk fun z => q (hS k z)⟩, h.shape⟩
theorem Like.alloc (S : Nat → Prop) (w : World) (o : Obj) : Like S w (w.alloc o) := ⟨Turned.alloc S w o, fun _ cur _ h => ⟨cur, Go.Mine.heap_alloc_old h, rfl⟩⟩
theorem Like.new {S : Nat → Prop} {a w : World} (h : Like S a w) (o : Obj) : Like S a (w.alloc o) := h.trans (Like.alloc S w o)
theorem Like.setCell {S : Nat → Prop} {w : World} {g o : Nat} (hS : S g) (v : Value) : Like S w (w.setCell ⟨g, o, none⟩ v) := by
  refine ⟨Turned.setCell (p := ⟨g, o, none⟩) hS v, fun b cur t h => ?_⟩
  by_cases hb : b = g
  · subst hb
    exact ⟨_, Go.Mine.heap_setCell_same h v, by simp⟩
  · exact ⟨cur, by rw [Go.Mine.heap_setCell_ne v hb]; exact h, rfl⟩
theorem Like.set {S : Nat → Prop} {a w : World} (h : Like S a w) {g o : Nat} (hS : S g) (v : Value) : Like S a (w.setCell ⟨g, o, none⟩ v) := h.trans (Like.setCell hS v)
theorem Like.setCells {S : Nat → Prop} (b : Nat) (hS : S b) : ∀ (vs : List Value) (o : Nat) (w : World), Like S w (w.setCells b o vs)
  | [], _, w => Like.refl S w
  | v :: r, o, w => by
    rw [World.setCells]
    exact (Like.setCell (g := b) (o := o) hS v).trans (Like.setCells b hS r (o + 1) _)

/-- a slice that fits its block, whatever lies there -/
def Fit (w : World) (S : Nat → Prop) (e : TypeId) (size : Nat) (v : Value) (n : Nat) : Prop := ∃ xs, Sl w S e size v xs n
theorem Fit.like {w w' : World} {S T : Nat → Prop} {e : TypeId} {size : Nat} {v : Value} {n : Nat} (h : Fit w S e size v n) (k : Like T w w') : Fit w' S e size v n := by
  obtain ⟨xs, hx, h⟩ := h
  rcases h with ⟨rfl, rfl⟩ | ⟨g, off, cap, cur, rfl, hS, hg, hnc, hcm, hcs, htake⟩
  · exact ⟨[], Sl.nil _ _ _ _⟩
  · obtain ⟨cur', h1, h2⟩ := k.shape g cur e hg
    have hmul : n * size ≤ cap * size := Nat.mul_le_mul_right _ hnc
    exact ⟨(cur'.toList.drop off).take (n * size), by simp; omega, .inr ⟨g, off, cap, cur', rfl, hS, h1, hnc, hcm, by omega, rfl⟩⟩
theorem Fit.widen {w : World} {S T : Nat → Prop} {e : TypeId} {size : Nat} {v : Value} {n : Nat} (h : Fit w S e size v n) (hS : ∀ b, S b → T b) : Fit w T e size v n := by
  obtain ⟨xs, h⟩ := h
  exact ⟨xs, h.widen hS⟩

section
variable {P : Program} {w : World} {S : Nat → Prop} {e t tx : TypeId} {size bytes : Nat} {v x z : Value} {xs news : List Value} {n m : Nat} {i : TypeInfo}
theorem Sl.append_like (h : Sl w S e size v xs n) (ht : P.underlying t = some (.slice e)) (hi : P.info? e = some i) (hz : i.zero = some z) (hsize : i.size = size) (hby : i.bytes = bytes)
    (hsrc : Src P size tx x m news w) (h63 : n + m ≤ maxLen) (hbytes : (n + m) * bytes ≤ 140737488355328) (ty : TypeId) :
    ∃ v' w', (Builtin.append_ #[t, tx] ty #[v, x]).run P w = .ok v' w' ∧ Like S w w' := by
  subst hsize
  subst hby
  have lk : Like S w w.drew := (Like.refl S w).draw
  rcases h.2 with ⟨rfl, rfl⟩ | ⟨g, off, cap, cur, rfl, hS, hg, hnc, hcm, hcs, htake⟩
  · have hx : xs = [] := List.eq_nil_of_length_eq_zero (by simpa using h.1)
    subst hx
    by_cases hm : m = 0
    · subst hm
      have hn : news = [] := List.eq_nil_of_length_eq_zero (by simpa using hsrc.newsLen)
      subst hn
      exact ⟨_, _, run_append_nothing w t tx ty e i ht hi none 0 0 (Nat.le_refl _) x hsrc, Like.refl _ _⟩
    · have hr := run_append_grow_src (P := P) w t tx ty e i z ht hi hz none 0 0 [] (run_firstCells_none w.drew i.size 0 0 0) x m news hsrc (by omega) (by simp only [maxLen] at h63; omega) (growslice_fits (by omega) (by simpa using hbytes))
      exact ⟨_, _, hr, lk.new _⟩
  · by_cases hroom : n + m ≤ cap
    · have hr := run_append_room_src (P := P) w t tx ty e i ht hi g off n cap x m news hsrc hroom (fun j hj => by
        have hmul : (n + m) * i.size ≤ cap * i.size := Nat.mul_le_mul_right _ hroom
        have hfit : off + n * i.size + news.length ≤ cur.size := by rw [hsrc.newsLen, Nat.add_assoc, ← Nat.add_mul]; omega
        simp [World.cell?, hg]; omega) (fun j hj => free_of hg _)
      exact ⟨_, _, hr, Like.setCells g hS _ _ _⟩
    · have hold : (Builtin.firstCells i.size n (.slice (some ⟨g, off, none⟩) n cap)).run P w.drew = .ok xs.toArray w.drew := by
        refine run_firstCells_some w.drew i.size n ⟨g, off, none⟩ n cap xs h.1 fun j u hu => ?_
        have hj : j < n * i.size := by rw [← h.1]; exact (List.getElem?_eq_some_iff.1 hu).1
        rw [← htake, List.getElem?_take, if_pos hj, List.getElem?_drop] at hu
        rw [Addr.add_lit]
        simpa [World.cell?, heap_drew, hg] using hu
      have hr := run_append_grow_src (P := P) w t tx ty e i z ht hi hz _ n cap xs hold x m news hsrc (by omega) (by simp only [maxLen] at h63; omega) (growslice_fits (by omega) hbytes)
      exact ⟨_, _, hr, lk.new _⟩

theorem wpList_append_like {ops : Array Oper} {rest : List Oper} {o : Oper} {a : Act} {Q : Exit → Act → World → Prop} (hgd : o.guard = none) (so xo : Operand) (t tx : TypeId)
    (ho : o.op = .call { callee := .builtin .append, args := #[so, xo], argTypes := #[t, tx] })
    (h : Sl w S e size v xs n) (ht : P.underlying t = some (.slice e)) (hinf : (P.info? e).map (fun i => (i.zero, i.size, i.bytes)) = some (some z, size, bytes))
    (hs : a.eval so = v) (x : Value) (hx : a.eval xo = x) (hsrc : Src P size tx x m news w) (h63 : n + m ≤ maxLen) (hbytes : (n + m) * bytes ≤ 140737488355328)
    (hK : ∀ v' w', Like S w w' → wpList P ops Q rest (a.put o.dst v') w') : wpList P ops Q (o :: rest) a w := by
  obtain ⟨i, hi, hz0, hz1, hz2⟩ := info_parts hinf
  refine wpList_plain hgd fun K' hK' => ?_
  obtain ⟨v', w', hrun, r2⟩ := h.append_like ht hi hz0 hz1 hz2 hsrc h63 hbytes o.type
  unfold Oper.wp
  simp [execOp, ho, resolve, invoke, builtin, hs, hx, hrun, Result.andThen]
  exact hK' _ _ (hK v' w' r2)
theorem step_append_like {ops : Array Oper} {o : Oper} {a : Act} {K : Act → World → Prop} {Q : Exit → Act → World → Prop} {E : Prop} (hgd : o.guard = none) (so xo : Operand) (t tx : TypeId)
    (ho : o.op = .call { callee := .builtin .append, args := #[so, xo], argTypes := #[t, tx] })
    (h : Sl w S e size v xs n) (ht : P.underlying t = some (.slice e)) (hinf : (P.info? e).map (fun i => (i.zero, i.size, i.bytes)) = some (some z, size, bytes))
    (hs : a.eval so = v) (x : Value) (hx : a.eval xo = x) (hsrc : Src P size tx x m news w) (h63 : n + m ≤ maxLen) (hbytes : (n + m) * bytes ≤ 140737488355328)
    (hK : ∀ v' w', Like S w w' → K (a.put o.dst v') w') :
    if Region.wanted o (yielded ops a.tmps) = true then Oper.wp P o a w K Q else E := by
  have hw : Region.wanted o (yielded ops a.tmps) = true := by simp [Region.wanted, hgd]
  rw [if_pos hw]
  obtain ⟨i, hi, hz0, hz1, hz2⟩ := info_parts hinf
  obtain ⟨v', w', hrun, r2⟩ := h.append_like ht hi hz0 hz1 hz2 hsrc h63 hbytes o.type
  unfold Oper.wp
  simp [execOp, ho, resolve, invoke, builtin, hs, hx, hrun, Result.andThen]
  exact hK _ _ r2
end
end Go.Mine
