/- Graph files: the walk of copied: what stands where. -/
import Derived.Test.YtfeljngmidhajaaGw13
import Derived.Test.YtfeljngmidhajaaRoom
import Derived.Deep.RegionLaw
namespace Go.Mine
open Go.MapKept

theorem step_append_fits {P : Program} {w : World} {e : TypeId} {size bytes : Nat} {z : Value} {news : List Value} {n m : Nat} {ops : Array Oper} {o : Oper} {a : Act} {K : Act → World → Prop} {Q : Exit → Act → World → Prop} {E : Prop} (hgd : o.guard = none) (so xo : Operand) (t tx : TypeId)
    (ho : o.op = .call { callee := .builtin .append, args := #[so, xo], argTypes := #[t, tx] }) (b off cap : Nat) (cur : Array Value)
    (hb : w.heap[b]? = some (.cells cur e (0, 0))) (ht : P.underlying t = some (.slice e)) (hinf : (P.info? e).map (fun i => (i.zero, i.size, i.bytes)) = some (some z, size, bytes))
    (hs : a.eval so = .slice (some ⟨b, off, none⟩) n cap) (x : Value) (hx : a.eval xo = x) (hsrc : Src P size tx x m news w) (hroom : n + m ≤ cap) (hcs : off + cap * size ≤ cur.size)
    (hK : ∀ w', w'.heap[b]? = some (.cells (splice cur.toList (off + n * size) news).toArray e (0, 0)) → Turned (· = b) w w' → w'.heap.size = w.heap.size → K (a.put o.dst (.slice (some ⟨b, off, none⟩) (n + m) cap)) w') :
    if Region.wanted o (yielded ops a.tmps) = true then Oper.wp P o a w K Q else E := by
  have hw : Region.wanted o (yielded ops a.tmps) = true := by simp [Region.wanted, hgd]
  rw [if_pos hw]
  obtain ⟨i, hi, hz0, hz1, hz2⟩ := info_parts hinf
  subst hz1
  have hmul : (n + m) * i.size ≤ cap * i.size := Nat.mul_le_mul_right _ hroom
  have hfit : off + n * i.size + news.length ≤ cur.size := by rw [hsrc.newsLen, Nat.add_assoc, ← Nat.add_mul]; omega
  have hrun := run_append_room_src (P := P) w t tx o.type e i ht hi b off n cap x m news hsrc hroom (fun j hj => by simp [World.cell?, hb]; omega) (fun j hj => free_of hb _)
  unfold Oper.wp
  simp [execOp, ho, resolve, invoke, builtin, hs, hx, hrun, Result.andThen]
  exact hK _ (heap_setCells_same b e news _ w cur hb hfit) (Turned.setCells (S := (· = b)) b rfl _ _ _) (setCells_size b news _ w)
end Go.Mine

namespace Go.Proofs.Ytfeljngmidhajaa
open Go.RowKit Go.Mine

theorem info61 : (Try.prog.info? 61).map (fun i => (i.zero, i.size, i.bytes)) = some (some (.agg #[.slice none 0 0, .int .i64 0, .int .i64 0, .int .i64 0, .string ⟨#[]⟩]), 5, 64) := by kernel_rfl

def icells (l : List Int) : List Value := l.map fun x => Value.int .i64 x
theorem icells_length (l : List Int) : (icells l).length = l.length := by simp [icells]
/-- the cells of rows whose lists stand in the blocks ps -/
def rcells : List Rw → List Nat → List Value
  | r :: l, p :: ps => [.slice (some ⟨p, 0, none⟩) r.par.length (r.par.length + 1), .int .i64 r.tree, .int .i64 r.gen, .int .i64 r.state, .string r.bits] ++ rcells l ps
  | _, _ => []
theorem rcells_length : ∀ (l : List Rw) (ps : List Nat), ps.length = l.length → (rcells l ps).length = l.length * 5
  | [], [], _ => rfl
  | r :: l, p :: ps, h => by
    simp only [rcells, List.length_append, List.length_cons, List.length_nil]
    rw [rcells_length l ps (by simpa using h)]; omega
theorem rcells_snoc : ∀ (l : List Rw) (ps : List Nat) (r : Rw) (p : Nat), ps.length = l.length → rcells (l ++ [r]) (ps ++ [p]) = rcells l ps ++ [.slice (some ⟨p, 0, none⟩) r.par.length (r.par.length + 1), .int .i64 r.tree, .int .i64 r.gen, .int .i64 r.state, .string r.bits]
  | [], [], _, _, _ => rfl
  | x :: l, y :: ps, r, p, h => by
    simp only [List.cons_append, rcells, List.append_assoc]
    rw [rcells_snoc l ps r p (by simpa using h)]
theorem rcells_get : ∀ (l : List Rw) (ps : List Nat) (i : Nat) (r : Rw) (p : Nat), ps.length = l.length → l[i]? = some r → ps[i]? = some p →
    (rcells l ps)[i * 5]? = some (.slice (some ⟨p, 0, none⟩) r.par.length (r.par.length + 1)) ∧ (rcells l ps)[i * 5 + 1]? = some (.int .i64 r.tree) ∧ (rcells l ps)[i * 5 + 2]? = some (.int .i64 r.gen) ∧ (rcells l ps)[i * 5 + 3]? = some (.int .i64 r.state) ∧ (rcells l ps)[i * 5 + 4]? = some (.string r.bits)
  | [], _, _, _, _, _, h, _ => by simp at h
  | x :: l, y :: ps, 0, r, p, h, h1, h2 => by
    obtain rfl := Option.some.inj h1
    obtain rfl := Option.some.inj h2
    simp [rcells]
  | x :: l, y :: ps, i + 1, r, p, h, h1, h2 => by
    have ih := rcells_get l ps i r p (by simpa using h) (by simpa using h1) (by simpa using h2)
    have e : ∀ k, (rcells (x :: l) (y :: ps))[(i + 1) * 5 + k]? = (rcells l ps)[i * 5 + k]? := fun k => by
      rw [show (i + 1) * 5 + k = i * 5 + k + 5 by omega]
      simp [rcells]
    refine ⟨?_, ?_, ?_, ?_, ?_⟩
    · have := e 0; rw [Nat.add_zero, Nat.add_zero] at this; rw [this]; exact ih.1
    · rw [e 1]; exact ih.2.1
    · rw [e 2]; exact ih.2.2.1
    · rw [e 3]; exact ih.2.2.2.1
    · rw [e 4]; exact ih.2.2.2.2

def spareR : List Value := [.slice none 0 0, .int .i64 (-78), .int .i64 0, .int .i64 0, .string ⟨#[]⟩]
/-- the rows l stand in the block c, each list in a block of its own, each with a place to spare that is marked; the blocks are of S -/
def CopyIs (w : World) (S : Nat → Prop) (c : Nat) (l : List Rw) : Prop :=
  S c ∧ ∃ ps : List Nat, ps.length = l.length ∧ w.heap[c]? = some (.cells (rcells l ps ++ spareR).toArray 61 (0, 0)) ∧
    ∀ (i : Nat) (r : Rw) (p : Nat), l[i]? = some r → ps[i]? = some p → S p ∧ w.heap[p]? = some (.cells (icells r.par ++ [Value.int .i64 (-77)]).toArray 3 (0, 0))

theorem CopyIs.turned {w w' : World} {S T : Nat → Prop} {c : Nat} {l : List Rw} (h : CopyIs w S c l) (ht : Turned T w w') (hS : ∀ b, S b → ¬ T b) : CopyIs w' S c l := by
  obtain ⟨h1, ps, h2, h3, h4⟩ := h
  refine ⟨h1, ps, h2, (ht.block c (lt_of_block h3) (hS c h1)).trans h3, fun i r p hr hp => ?_⟩
  obtain ⟨k1, k2⟩ := h4 i r p hr hp
  exact ⟨k1, (ht.block p (lt_of_block k2) (hS p k1)).trans k2⟩

theorem copy_ints {w : World} {S : Nat → Prop} {p : Nat} {l : List Int} (h : w.heap[p]? = some (.cells (icells l ++ [Value.int .i64 (-77)]).toArray 3 (0, 0))) (hp : S p) (hl : ∀ x ∈ l, I64 x) (hm : l.length + 1 ≤ maxLen) : Ints w S (some ⟨p, 0, none⟩) (l.length + 1) l := by
  refine ⟨by omega, hm, hl, fun _ => ⟨p, 0, rfl, hp, lt_of_block h, fun i x hx => ?_⟩⟩
  rw [Nat.zero_add]
  refine cell_of h i _ ?_
  have hi := (List.getElem?_eq_some_iff.1 hx).1
  rw [List.getElem?_toArray, List.getElem?_append_left (by rw [icells_length]; exact hi)]
  simp [icells, hx]

theorem CopyIs.rows {w : World} {S : Nat → Prop} {c : Nat} {l : List Rw} (h : CopyIs w S c l) (hok : ∀ r ∈ l, RwOk r ∧ (∀ x ∈ r.par, I64 x) ∧ r.par.length + 1 ≤ maxLen) (hm : l.length + 1 ≤ maxLen) : RwIs w S (some ⟨c, 0, none⟩) (l.length + 1) l := by
  obtain ⟨h1, ps, h2, h3, h4⟩ := h
  refine ⟨by omega, hm, fun r hr => (hok r hr).1, fun _ => ⟨c, 0, rfl, h1, lt_of_block h3, fun i r hr => ?_⟩⟩
  have hi := (List.getElem?_eq_some_iff.1 hr).1
  obtain ⟨p, hp⟩ : ∃ p, ps[i]? = some p := ⟨_, List.getElem?_eq_getElem (by omega)⟩
  obtain ⟨k1, k2⟩ := h4 i r p hr hp
  obtain ⟨g0, g1, g2, g3, g4⟩ := rcells_get l ps i r p h2 hr hp
  have hlen := rcells_length l ps h2
  have hat : ∀ (k : Nat) (v : Value), (rcells l ps)[i * 5 + k]? = some v → k < 5 → w.cell? ⟨c, 0 + i * 5 + k, none⟩ = some v := fun k v hv hk => by
    rw [Nat.zero_add]
    refine cell_of h3 _ _ ?_
    rw [List.getElem?_toArray, List.getElem?_append_left (by rw [hlen]; omega)]
    exact hv
  obtain ⟨o1, o2, o3⟩ := hok r (List.mem_of_getElem? hr)
  exact ⟨_, _, copy_ints k2 k1 o2 o3, by have := hat 0 _ (by rw [Nat.add_zero]; exact g0) (by decide); rw [Nat.add_zero] at this; exact this, hat 1 _ g1 (by decide), hat 2 _ g2 (by decide), hat 3 _ g3 (by decide), hat 4 _ g4 (by decide)⟩
end Go.Proofs.Ytfeljngmidhajaa
