/- Slices that a call owns, at any offset of their row: what append, a cut, a read and a store make of them. -/
import Derived.Test.YteblabpplaaddaaGreatDoorLib
import Derived.Deep.AppendSrc
import Derived.Deep.Upon
set_option linter.unusedVariables false
set_option linter.unusedSimpArgs false
namespace Go.Mine
open Go.MapKept

/-- v is a slice of n elements (size cells each) that reads as the cells xs; its row is one of S -/
def Sl (w : World) (S : Nat → Prop) (e : TypeId) (size : Nat) (v : Value) (xs : List Value) (n : Nat) : Prop :=
  xs.length = n * size ∧ ((v = .slice none 0 0 ∧ n = 0) ∨
    ∃ g off cap cur, v = .slice (some ⟨g, off, none⟩) n cap ∧ S g ∧ w.heap[g]? = some (.cells cur e (0, 0)) ∧ n ≤ cap ∧ cap ≤ maxLen ∧ off + cap * size ≤ cur.size ∧ (cur.toList.drop off).take (n * size) = xs)

theorem Sl.nil (w : World) (S : Nat → Prop) (e : TypeId) (size : Nat) : Sl w S e size (.slice none 0 0) [] 0 := ⟨by simp, .inl ⟨rfl, rfl⟩⟩

theorem Sl.turned {w w' : World} {S T : Nat → Prop} {e : TypeId} {size : Nat} {v : Value} {xs : List Value} {n : Nat} (h : Sl w S e size v xs n) (ht : Turned T w w') (hS : ∀ b, S b → ¬ T b) : Sl w' S e size v xs n := by
  refine ⟨h.1, ?_⟩
  rcases h.2 with h | ⟨g, off, cap, cur, h1, h2, h3, h4⟩
  · exact .inl h
  · exact .inr ⟨g, off, cap, cur, h1, h2, (ht.block g (lt_of_block h3) (hS g h2)).trans h3, h4⟩

theorem Sl.widen {w : World} {S T : Nat → Prop} {e : TypeId} {size : Nat} {v : Value} {xs : List Value} {n : Nat} (h : Sl w S e size v xs n) (hS : ∀ b, S b → T b) : Sl w T e size v xs n := by
  refine ⟨h.1, ?_⟩
  rcases h.2 with h | ⟨g, off, cap, cur, h1, h2, h3⟩
  · exact .inl h
  · exact .inr ⟨g, off, cap, cur, h1, hS g h2, h3⟩

theorem Sl.drew {w : World} {S : Nat → Prop} {e : TypeId} {size : Nat} {v : Value} {xs : List Value} {n : Nat} (h : Sl w S e size v xs n) : Sl w.drew S e size v xs n := h

/-- what a slice of at least one element is made of -/
theorem Sl.opens {w : World} {S : Nat → Prop} {e : TypeId} {size : Nat} {v : Value} {xs : List Value} {n : Nat} (h : Sl w S e size v xs n) (hn : 0 < n) :
    ∃ g off cap, v = .slice (some ⟨g, off, none⟩) n cap ∧ S g ∧ n ≤ cap ∧ cap ≤ maxLen ∧ (∀ j, j < n * size → w.cell? ⟨g, off + j, none⟩ = xs[j]?) ∧ (∀ j, w.frozen? ⟨g, j, none⟩ = false) ∧ g < w.heap.size := by
  rcases h.2 with ⟨_, h⟩ | ⟨g, off, cap, cur, h1, h2, h3, h4, h5, h6, h7⟩
  · omega
  · refine ⟨g, off, cap, h1, h2, h4, h5, fun j hj => ?_, fun j => free_of h3 j, lt_of_block h3⟩
    rw [← h7, List.getElem?_take, if_pos hj, List.getElem?_drop]
    simp [World.cell?, h3]

/-- the value, whatever its length -/
theorem Sl.value {w : World} {S : Nat → Prop} {e : TypeId} {size : Nat} {v : Value} {xs : List Value} {n : Nat} (h : Sl w S e size v xs n) : ∃ a cap, v = .slice a n cap ∧ n ≤ cap ∧ cap ≤ maxLen := by
  rcases h.2 with ⟨h1, rfl⟩ | ⟨g, off, cap, cur, h1, h2, h3, h4, h5, _⟩
  · exact ⟨_, _, h1, Nat.le_refl _, by simp [maxLen]⟩
  · exact ⟨_, _, h1, h4, h5⟩

def splice (l : List Value) (o : Nat) (vs : List Value) : List Value := l.take o ++ vs ++ l.drop (o + vs.length)

theorem splice_length {l : List Value} {o : Nat} {vs : List Value} (h : o + vs.length ≤ l.length) : (splice l o vs).length = l.length := by simp [splice]; omega

theorem splice_cons {l : List Value} {o : Nat} {v : Value} {r : List Value} (h : o < l.length) : splice (l.set o v) (o + 1) r = splice l o (v :: r) := by
  unfold splice
  rw [List.take_add_one, List.getElem?_set_self h, List.take_set_of_le (Nat.le_refl o), List.drop_set_of_lt (by omega)]
  simp [Nat.add_comm 1, Nat.add_assoc]

theorem heap_setCells_same (b : Nat) (e : TypeId) : ∀ (vs : List Value) (o : Nat) (w : World) (cur : Array Value), w.heap[b]? = some (.cells cur e (0, 0)) → o + vs.length ≤ cur.size →
    (w.setCells b o vs).heap[b]? = some (.cells (splice cur.toList o vs).toArray e (0, 0))
  | [], o, w, cur, h, hl => by simp [World.setCells, splice, h]
  | v :: r, o, w, cur, h, hl => by
    simp only [List.length_cons] at hl
    have h1 := Go.Mine.heap_setCell_same (o := o) h v
    rw [World.setCells, heap_setCells_same b e r (o + 1) _ _ h1 (by simp; omega)]
    rw [Array.toList_setIfInBounds, splice_cons (by simp; omega)]

theorem Turned.setCells {S : Nat → Prop} (b : Nat) (hS : S b) : ∀ (vs : List Value) (o : Nat) (w : World), Turned S w (w.setCells b o vs)
  | [], _, w => Turned.refl S w
  | v :: r, o, w => by
    rw [World.setCells]
    exact (Turned.setCell (p := ⟨b, o, none⟩) hS v).trans (Turned.setCells b hS r (o + 1) _) fun _ _ q => q

def More (S : Nat → Prop) (w : World) (b : Nat) : Prop := S b ∨ w.heap.size ≤ b

section
variable {P : Program} {w : World} {S : Nat → Prop} {e t tx : TypeId} {size bytes : Nat} {v x z : Value} {xs news : List Value} {n m : Nat} {i : TypeInfo}

theorem Sl.append (h : Sl w S e size v xs n) (ht : P.underlying t = some (.slice e)) (hi : P.info? e = some i) (hz : i.zero = some z) (hsize : i.size = size) (hby : i.bytes = bytes) (hzs : z.cells.size = size) (_hs0 : 0 < size)
    (hsrc : Src P size tx x m news w) (h63 : n + m ≤ maxLen) (hbytes : (n + m) * bytes ≤ 140737488355328) (ty : TypeId) :
    ∃ v' w', (Builtin.append_ #[t, tx] ty #[v, x]).run P w = .ok v' w' ∧ Sl w' (More S w) e size v' (xs ++ news) (n + m) ∧ Turned S w w' := by
  subst hsize
  subst hby
  have hlen : (xs ++ news).length = (n + m) * i.size := by rw [List.length_append, h.1, hsrc.newsLen, Nat.add_mul]
  have grown : ∀ (old : Nat), old < n + m → Sl (w.drew.alloc (.cells ((xs ++ news).toArray ++ Builtin.zeroCells z.cells (grownCap w (n + m) old e - (n + m))) e)) (More S w) e i.size
        (.slice (some ⟨w.heap.size, 0, none⟩) (n + m) (grownCap w (n + m) old e)) (xs ++ news) (n + m) ∧
      Turned S w (w.drew.alloc (.cells ((xs ++ news).toArray ++ Builtin.zeroCells z.cells (grownCap w (n + m) old e - (n + m))) e)) := by
    intro old ho
    have hge := grownCap_ge w (n + m) old e
    have hcm : grownCap w (n + m) old e ≤ maxLen := grownCap_le_maxLen w (n + m) old e h63
    refine ⟨⟨hlen, .inr ⟨w.heap.size, 0, _, _, rfl, .inr (Nat.le_refl _), Go.Mine.heap_alloc_new w.drew _, hge, hcm, ?_, ?_⟩⟩, (Turned.drew S w).new _⟩
    · simp only [Array.size_append, List.size_toArray, size_zeroCells, hzs, hlen, Nat.zero_add, ← Nat.add_mul]
      exact Nat.le_of_eq (by congr 1; omega)
    · rw [List.drop_zero, Array.toList_append, ← hlen]
      exact List.take_left
  rcases h.2 with ⟨rfl, rfl⟩ | ⟨g, off, cap, cur, rfl, hS, hg, hnc, hcm, hcs, htake⟩
  · have hx : xs = [] := List.eq_nil_of_length_eq_zero (by simpa using h.1)
    subst hx
    by_cases hm : m = 0
    · subst hm
      have hn : news = [] := List.eq_nil_of_length_eq_zero (by simpa using hsrc.newsLen)
      subst hn
      exact ⟨_, _, run_append_nothing w t tx ty e i ht hi none 0 0 (Nat.le_refl _) x hsrc, Sl.nil _ _ _ _, Turned.refl _ _⟩
    · have hr := run_append_grow_src (P := P) w t tx ty e i z ht hi hz none 0 0 [] (run_firstCells_none w.drew i.size 0 0 0) x m news hsrc (by omega) (by simp only [maxLen] at h63; omega) (growslice_fits (by omega) (by simpa using hbytes))
      have hgr := grown 0 (by omega)
      exact ⟨_, _, hr, hgr.1, hgr.2⟩
  · by_cases hroom : n + m ≤ cap
    · have hmul : (n + m) * i.size ≤ cap * i.size := Nat.mul_le_mul_right _ hroom
      have hfit : off + n * i.size + news.length ≤ cur.size := by rw [hsrc.newsLen, Nat.add_assoc, ← Nat.add_mul]; omega
      have hr := run_append_room_src (P := P) w t tx ty e i ht hi g off n cap x m news hsrc hroom (fun j hj => by simp [World.cell?, hg]; omega) (fun j hj => free_of hg _)
      refine ⟨_, _, hr, ⟨hlen, .inr ⟨g, off, cap, _, rfl, .inl hS, heap_setCells_same g e news _ w cur hg hfit, hroom, hcm, ?_, ?_⟩⟩, Turned.setCells g hS _ _ _⟩
      · simp only [List.size_toArray]
        rw [splice_length (by simpa using hfit)]; simpa using hcs
      · have h1 : n * i.size ≤ cur.size - off := by omega
        have htl : (cur.toList.take (off + n * i.size)).drop off = xs := by rw [← htake, List.drop_take]; congr 1; omega
        simp only [splice]
        rw [List.append_assoc, List.drop_append_of_le_length (by simp; omega), htl, ← List.append_assoc, ← hlen]
        exact List.take_left
    · have hold : (Builtin.firstCells i.size n (.slice (some ⟨g, off, none⟩) n cap)).run P w.drew = .ok xs.toArray w.drew := by
        refine run_firstCells_some w.drew i.size n ⟨g, off, none⟩ n cap xs h.1 fun j u hu => ?_
        have hj : j < n * i.size := by rw [← h.1]; exact (List.getElem?_eq_some_iff.1 hu).1
        rw [← htake, List.getElem?_take, if_pos hj, List.getElem?_drop] at hu
        rw [Addr.add_lit]
        simpa [World.cell?, heap_drew, hg] using hu
      have hr := run_append_grow_src (P := P) w t tx ty e i z ht hi hz _ n cap xs hold x m news hsrc (by omega) (by simp only [maxLen] at h63; omega) (growslice_fits (by omega) hbytes)
      have hgr := grown cap (by omega)
      exact ⟨_, _, hr, hgr.1, hgr.2⟩

theorem wpList_append {ops : Array Oper} {rest : List Oper} {o : Oper} {a : Act} {Q : Exit → Act → World → Prop} (hgd : o.guard = none) (so xo : Operand) (t tx : TypeId)
    (ho : o.op = .call { callee := .builtin .append, args := #[so, xo], argTypes := #[t, tx] })
    (h : Sl w S e size v xs n) (ht : P.underlying t = some (.slice e)) (hinf : (P.info? e).map (fun i => (i.zero, i.size, i.bytes)) = some (some z, size, bytes)) (hzs : z.cells.size = size) (hs0 : 0 < size)
    (hs : a.eval so = v) (x : Value) (hx : a.eval xo = x) (hsrc : Src P size tx x m news w) (h63 : n + m ≤ maxLen) (hbytes : (n + m) * bytes ≤ 140737488355328)
    (hK : ∀ v' w', Sl w' (More S w) e size v' (xs ++ news) (n + m) → Turned S w w' → wpList P ops Q rest (a.put o.dst v') w') : wpList P ops Q (o :: rest) a w := by
  obtain ⟨i, hi, hz0, hz1, hz2⟩ := info_parts hinf
  refine wpList_plain hgd fun K' hK' => ?_
  obtain ⟨v', w', hrun, r1, r2⟩ := h.append ht hi hz0 hz1 hz2 hzs hs0 hsrc h63 hbytes o.type
  unfold Oper.wp
  simp [execOp, ho, resolve, invoke, builtin, hs, hx, hrun, Result.andThen]
  exact hK' _ _ (hK v' w' r1 r2)

theorem Sl.cut (h : Sl w S e size v xs n) (lo hi : Nat) (hlh : lo ≤ hi) (hhn : hi ≤ n) :
    ∃ a cap, v = .slice a n cap ∧ n ≤ cap ∧ cap ≤ maxLen ∧ Sl w S e size (.slice (if cap = lo then a else a.map (·.add (lo * size))) (hi - lo) (cap - lo)) ((xs.drop (lo * size)).take ((hi - lo) * size)) (hi - lo) := by
  have hlen : ((xs.drop (lo * size)).take ((hi - lo) * size)).length = (hi - lo) * size := by
    have h1 : lo * size + (hi - lo) * size ≤ n * size := by rw [← Nat.add_mul]; exact Nat.mul_le_mul_right _ (by omega)
    simp only [List.length_take, List.length_drop, h.1]; omega
  rcases h.2 with ⟨rfl, rfl⟩ | ⟨g, off, cap, cur, rfl, hS, hg, hnc, hcm, hcs, htake⟩
  · obtain rfl : hi = 0 := by omega
    obtain rfl : lo = 0 := by omega
    exact ⟨none, 0, rfl, Nat.le_refl _, by simp [maxLen], by rw [if_pos rfl]; exact ⟨hlen, .inl ⟨rfl, rfl⟩⟩⟩
  · refine ⟨_, cap, rfl, hnc, hcm, hlen, .inr ?_⟩
    by_cases hc : cap = lo
    · obtain rfl : hi = n := by omega
      obtain rfl : lo = hi := by omega
      refine ⟨g, off, cap - lo, cur, by rw [if_pos hc], hS, hg, by omega, by omega, ?_, ?_⟩
      · have : (cap - lo) * size ≤ cap * size := Nat.mul_le_mul_right _ (by omega)
        omega
      · simp
    · refine ⟨g, off + lo * size, cap - lo, cur, by rw [if_neg hc, Option.map_some, Addr.add_lit], hS, hg, by omega, by omega, ?_, ?_⟩
      · have : lo * size + (cap - lo) * size = cap * size := by rw [← Nat.add_mul]; congr 1; omega
        omega
      · have h1 : lo * size + (hi - lo) * size ≤ n * size := by rw [← Nat.add_mul]; exact Nat.mul_le_mul_right _ (by omega)
        rw [← htake, ← List.drop_drop, List.drop_take, List.take_take]
        congr 1; omega

/-- 's[k:]', 's[:k]', 's[lo:hi]' of an owned slice: the run, whatever the world; the value -/
theorem Sl.run_from (h : Sl w S e size v xs n) (ht : P.underlying t = some (.slice e)) (hinf : (P.info? e).map (fun i => (i.zero, i.size, i.bytes)) = some (some z, size, bytes)) (k : Nat) (kl : IntKind) (L : Int) (hL : L = (k : Int)) (hk : k ≤ n) :
    ∃ v', (∀ w', (Instr.slice t v (some (.int kl L)) none none).run P w' = .ok v' w') ∧ Sl w S e size v' (xs.drop (k * size)) (n - k) := by
  obtain ⟨i, hi, hz0, hz1, hz2⟩ := info_parts hinf
  subst hL
  obtain ⟨ad, cap, rfl, h1, h2, h3⟩ := h.cut k n hk (Nat.le_refl _)
  have h4 : (xs.drop (k * size)).take ((n - k) * size) = xs.drop (k * size) := by
    apply List.take_of_length_le
    rw [List.length_drop, h.1, Nat.sub_mul]; exact Nat.le_refl _
  rw [h4] at h3
  refine ⟨_, fun w' => ?_, h3⟩
  simp [Instr.slice, Instr.sliceBounds, Instr.sliceBound, asIntOf, run_underlying ht, sizeOf, typeInfo, hi, hz1, hk, Result.andThen]

theorem Sl.run_to (h : Sl w S e size v xs n) (ht : P.underlying t = some (.slice e)) (hinf : (P.info? e).map (fun i => (i.zero, i.size, i.bytes)) = some (some z, size, bytes)) (k : Nat) (kl : IntKind) (L : Int) (hL : L = (k : Int)) (hk : k ≤ n) :
    ∃ v', (∀ w', (Instr.slice t v none (some (.int kl L)) none).run P w' = .ok v' w') ∧ Sl w S e size v' (xs.take (k * size)) k := by
  obtain ⟨i, hi, hz0, hz1, hz2⟩ := info_parts hinf
  subst hL
  obtain ⟨ad, cap, rfl, h1, h2, h3⟩ := h.cut 0 k (Nat.zero_le _) hk
  simp only [Nat.zero_mul, List.drop_zero, Nat.sub_zero] at h3
  have hkc : k ≤ cap := by omega
  refine ⟨_, fun w' => ?_, h3⟩
  simp [Instr.slice, Instr.sliceBounds, Instr.sliceBound, asIntOf, run_underlying ht, sizeOf, typeInfo, hi, hkc, Result.andThen]

theorem Sl.run_both (h : Sl w S e size v xs n) (ht : P.underlying t = some (.slice e)) (hinf : (P.info? e).map (fun i => (i.zero, i.size, i.bytes)) = some (some z, size, bytes)) (lo hi : Nat) (kl kh : IntKind) (L H : Int) (hL : L = (lo : Int)) (hH : H = (hi : Int)) (hlh : lo ≤ hi) (hhn : hi ≤ n) :
    ∃ v', (∀ w', (Instr.slice t v (some (.int kl L)) (some (.int kh H)) none).run P w' = .ok v' w') ∧ Sl w S e size v' ((xs.drop (lo * size)).take ((hi - lo) * size)) (hi - lo) := by
  obtain ⟨i, hi', hz0, hz1, hz2⟩ := info_parts hinf
  subst hL; subst hH
  obtain ⟨ad, cap, rfl, h1, h2, h3⟩ := h.cut lo hi hlh hhn
  have hkc : hi ≤ cap := by omega
  refine ⟨_, fun w' => ?_, h3⟩
  simp [Instr.slice, Instr.sliceBounds, Instr.sliceBound, asIntOf, run_underlying ht, sizeOf, typeInfo, hi', hz1, hkc, hlh, Result.andThen]

/-- an owned slice as what an append appends -/
theorem Sl.src (h : Sl w S e size v xs n) {e' : TypeId} (hk : P.underlying tx = some (.slice e')) (h1 : ∀ u ∈ xs, u.oneCell' = true) : Src P size tx v n xs w := by
  rcases h.2 with ⟨rfl, rfl⟩ | ⟨g, off, cap, cur, rfl, hS, hg, hnc, hcm, hcs, htake⟩
  · obtain rfl : xs = [] := List.eq_nil_of_length_eq_zero (by simpa using h.1)
    exact Src.ofNil _ hk 0
  · refine Src.ofSlice _ hk _ n cap xs h.1 (fun j u hu => ?_) h1
    have hj : j < n * size := by rw [← h.1]; exact (List.getElem?_eq_some_iff.1 hu).1
    rw [← htake, List.getElem?_take, if_pos hj, List.getElem?_drop] at hu
    rw [Addr.add_lit]
    simpa [World.cell?, hg] using hu

/-- the new one-cell block that 'append(s, x)' lays for x -/
theorem src_one {te : TypeId} (hk : P.underlying tx = some (.slice te)) (u : Value) (hu : u.oneCell' = true) (w : World) : Src P 1 tx (.slice (some ⟨w.heap.size, 0, none⟩) 1 1) 1 [u] (w.alloc (.cells #[u] te)) :=
  Src.ofSlice _ hk _ 1 1 [u] rfl (cell_one_new _ _ _) (by simpa using hu)
end

end Go.Mine
