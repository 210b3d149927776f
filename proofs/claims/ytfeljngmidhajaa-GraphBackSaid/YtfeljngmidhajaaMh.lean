/- Graph files read: spoilt, decoded -/
import Derived.Test.YtfeljngmidhajaaMg
namespace Go.Proofs.Ytfeljngmidhajaa
open Go.RowKit Go.Mine

theorem tmod_nat (a b : Nat) : ((a : Nat) : Int).tmod ((b : Nat) : Int) = ((a % b : Nat) : Int) := by
  rw [Int.tmod_eq_emod_of_nonneg (by omega)]
  rfl
theorem tdiv_nat (a b : Nat) : ((a : Nat) : Int).tdiv ((b : Nat) : Int) = ((a / b : Nat) : Int) := by
  rw [Int.tdiv_eq_ediv_of_nonneg (by omega)]
  rfl
theorem refR_len (l : List Ch) (h : l.length ≠ 5) : refR l = none := by
  unfold refR
  split
  · simp at h
  · rfl
theorem five_of (l : List Ch) (h : l.length = 5) : ∃ a b c d e : Ch, l = [a, b, c, d, e] := by
  rcases l with _ | ⟨a, _ | ⟨b, _ | ⟨c, _ | ⟨d, _ | ⟨e, _ | ⟨f, l⟩⟩⟩⟩⟩⟩ <;> simp at h
  exact ⟨a, b, c, d, e, rfl⟩

theorem wrap64_small (n : Nat) (h : n ≤ 4194304) : wrap64 ((n : Nat) : Int) = (n : Int) := by
  simp only [wrap64]
  omega
theorem n15_of (a n : Nat) (h1 : a % 15 = 0) (h2 : a / 15 = n) : a = 15 * n := by omega
theorem n4_of (a : Nat) (h1 : a % 4 = 0) : a = 4 * (a / 4) := by omega
theorem int_beq (x y : Int) (h : x = y) : (x == y) = true := by simp [h]

theorem rdecode_any (t : ByteArray) (w : World) (hs : t.size ≤ 4611686018427387904) : Calls Try.prog 70 #[.string t] w (DecPost w (rdecR t)) := by
  cases hpr : parseR t with
  | error k =>
    have e : rdecR t = .error k := by unfold rdecR; rw [hpr]
    rw [e]
    exact rdecode_err t k w hs (by rw [← parse_same]; exact hpr)
  | ok l =>
    obtain ⟨hsm, h16, hbe, hbt, hri⟩ := parse_small t l hpr
    have hds := ((buildErr_iff l).1 hbe).2.2
    have P : ∀ W, Calls Try.prog 62 #[.string t] W fun e w' => Turned (fun _ => False) W w' ∧ ∃ a cap, e = .returned (.tuple #[.slice a l.length cap, .int .i64 0]) ∧ Sl w' (fun b => W.heap.size ≤ b) 31 2 (.slice a l.length cap) (ccells l) l.length := fun W => by
      have h := rparse_any t W hs
      rw [← parse_same, hpr] at h
      refine h.mono ?_
      rintro e w' ⟨h1, v, rfl, hsl⟩
      obtain ⟨a, cap, rfl, -, -⟩ := hsl.value
      exact ⟨h1, a, cap, rfl, hsl⟩
    by_cases h5 : l.length = 5
    · obtain ⟨⟨i1, ch⟩, ⟨i2, ca⟩, ⟨i3, ce⟩, ⟨i4, cn⟩, ⟨i5, cb⟩, rfl⟩ := five_of l h5
      have P5 : Hid (∀ W, Calls Try.prog 62 #[.string t] W fun e w' => Turned (fun _ => False) W w' ∧ ∃ a cap g off, e = .returned (.tuple #[.slice a 5 cap, .int .i64 0]) ∧ a = some ⟨g, off, none⟩ ∧ g < w'.heap.size ∧ w'.cell? ⟨g, off + 1, none⟩ = some (.string ch) ∧ w'.cell? ⟨g, off + 3, none⟩ = some (.string ca) ∧ w'.cell? ⟨g, off + 5, none⟩ = some (.string ce) ∧ w'.cell? ⟨g, off + 7, none⟩ = some (.string cn) ∧ w'.cell? ⟨g, off + 9, none⟩ = some (.string cb)) := fun W => by
        refine (P W).mono ?_
        rintro e w' ⟨h1, a, cap, rfl, hsl⟩
        obtain ⟨g, off, cap2, hv, -, -, -, hc, -, hlt⟩ := hsl.opens (by simp)
        injection hv with e1 _ _
        exact ⟨h1, a, cap, g, off, rfl, e1, hlt, hc 1 (by simp), hc 3 (by simp), hc 5 (by simp), hc 7 (by simp), hc 9 (by simp)⟩
      have hD := Nat.le_trans (Nat.le_add_left _ _) hds
      have z2 := Nat.le_trans (size_le_data _ (i2, ca) (by simp)) hD
      have z3 := Nat.le_trans (size_le_data _ (i3, ce) (by simp)) hD
      have z4 := Nat.le_trans (size_le_data _ (i4, cn) (by simp)) hD
      have z5 := Nat.le_trans (size_le_data _ (i5, cb) (by simp)) hD
      clear hs hsm h16 hbe hbt hri hds hD
      simp only at z2 z3 z4 z5
      have bad : ∀ R, refR [(i1, ch), (i2, ca), (i3, ce), (i4, cn), (i5, cb)] = none → R = rdecR t → R = .error 3 := fun R h1 h2 => by
        rw [h2]
        unfold rdecR
        rw [hpr]
        simp only
        rw [h1]
      have q1 := tmod_nat ca.size 15
      have q2 := tmod_nat cn.size 4
      have q3 := tdiv_nat ca.size 15
      have q4 := tdiv_nat cn.size 4
      by_cases c1 : ch.size = 16
      · have f1 := int_bne (ch.size : Int) 16 (by rw [c1]; rfl)
        have f2 := int_beq (ch.size : Int) 16 (by rw [c1]; rfl)
        by_cases c2 : ca.size % 15 = 0
        · rw [c2] at q1
          by_cases c3 : cn.size % 4 = 0
          · rw [c3] at q2
            have w1 := wrap64_small (ca.size / 15) (Nat.le_trans (Nat.div_le_self _ _) z2)
            have w2 := wrap64_small (cn.size / 4) (Nat.le_trans (Nat.div_le_self _ _) z4)
            by_cases c4 : ca.size / 15 = cn.size / 4
            · rw [c4] at q3
              refine rdecode_main t ch ca ce cn cb w (cn.size / 4) (rowsG refPar ca ce cn cb (cn.size / 4) 0 0 []) (rdecR t) P5 f1 f2 q1 q2 q3 q4 w2 ⟨c1, n15_of _ _ c2 c4, n4_of _ c3, z2, z3, z4, z5⟩ rfl ?_
              have hrf : refR [(i1, ch), (i2, ca), (i3, ce), (i4, cn), (i5, cb)] = (rowsG refPar ca ce cn cb (cn.size / 4) 0 0 []).map fun rows => headR ch rows := by
                unfold refR
                simp only
                rw [if_neg (fun q => by rcases q with q | q | q | q <;> first | exact q c1 | exact q c2 | exact q c3 | exact q c4)]
              refine ⟨fun h => ?_, fun rows h he => ?_, fun rows h he => ?_⟩
              · exact bad _ (by rw [hrf, h]; rfl) rfl
              · unfold rdecR
                rw [hpr]
                simp only
                rw [hrf, h]
                simp only [Option.map_some]
                rw [if_pos he]
              · unfold rdecR
                rw [hpr]
                simp only
                rw [hrf, h]
                simp only [Option.map_some]
                rw [if_neg he]
            · have hn : refR [(i1, ch), (i2, ca), (i3, ce), (i4, cn), (i5, cb)] = none := by unfold refR; simp only; rw [if_pos (.inr (.inr (.inr c4)))]
              rw [bad _ hn rfl]
              exact rdecode_h4 t ch ca ce cn cb w P5 f1 f2 q1 q2 _ _ q3 q4 w1 w2 c4
          · have hn : refR [(i1, ch), (i2, ca), (i3, ce), (i4, cn), (i5, cb)] = none := by unfold refR; simp only; rw [if_pos (.inr (.inr (.inl c3)))]
            rw [bad _ hn rfl]
            exact rdecode_h3 t ch ca ce cn cb w P5 f1 f2 q1 _ q2 c3
        · have hn : refR [(i1, ch), (i2, ca), (i3, ce), (i4, cn), (i5, cb)] = none := by unfold refR; simp only; rw [if_pos (.inr (.inl c2))]
          rw [bad _ hn rfl]
          exact rdecode_h2 t ch ca ce cn cb w P5 f1 f2 _ q1 c2
      · have hn : refR [(i1, ch), (i2, ca), (i3, ce), (i4, cn), (i5, cb)] = none := by unfold refR; simp only; rw [if_pos (.inl c1)]
        rw [bad _ hn rfl]
        exact rdecode_h1 t ch ca ce cn cb w P5 c1
    · have e : rdecR t = .error 3 := by unfold rdecR; rw [hpr]; simp only; rw [refR_len l h5]
      rw [e]
      refine rdecode_len t l.length w ?_ h5
      have q : ∀ W, Calls Try.prog 62 #[.string t] W fun e w' => Turned (fun _ => False) W w' ∧ ∃ a cap, e = .returned (.tuple #[.slice a l.length cap, .int .i64 0]) := fun W => (P W).mono fun e w' h => ⟨h.1, h.2.elim fun a h => ⟨a, h.elim fun c h => ⟨c, h.1⟩⟩⟩
      exact q
end Go.Proofs.Ytfeljngmidhajaa

namespace Go.Mine
open Go.MapKept

/-- blocks keep their kind and their size -/
def Keeps (w w' : World) : Prop := ∀ (g : Nat) (cur : Array Value) (e : TypeId), w.heap[g]? = some (.cells cur e (0, 0)) → ∃ cur', w'.heap[g]? = some (.cells cur' e (0, 0)) ∧ cur'.size = cur.size
theorem Keeps.refl (w : World) : Keeps w w := fun _ cur _ h => ⟨cur, h, rfl⟩
theorem Keeps.trans {a b c : World} (h : Keeps a b) (k : Keeps b c) : Keeps a c := fun g cur e q => by
  obtain ⟨c1, q1, q2⟩ := h g cur e q
  obtain ⟨c2, q3, q4⟩ := k g c1 e q1
  exact ⟨c2, q3, q4.trans q2⟩
theorem Keeps.setCell (w : World) (b o : Nat) (u : Value) : Keeps w (w.setCell ⟨b, o, none⟩ u) := fun g cur e h => by
  by_cases hb : g = b
  · subst hb
    exact ⟨_, Go.Mine.heap_setCell_same (o := o) h u, by simp⟩
  · exact ⟨cur, (Go.Mine.heap_setCell_ne _ hb).trans h, rfl⟩
theorem Keeps.alloc (w : World) (o : Obj) : Keeps w (w.alloc o) := fun _ cur _ h => ⟨cur, Go.Mine.heap_alloc_old h, rfl⟩
theorem Keeps.drew (w : World) : Keeps w w.drew := fun _ cur _ h => ⟨cur, h, rfl⟩
theorem Keeps.setCells (b : Nat) : ∀ (vs : List Value) (o : Nat) (w : World), Keeps w (w.setCells b o vs)
  | [], _, w => Keeps.refl w
  | v :: r, o, w => by
    rw [World.setCells]
    exact (Keeps.setCell w b o v).trans (Keeps.setCells b r (o + 1) _)

/-- a slice that may be written, whatever it holds -/
def Wri (w : World) (S : Nat → Prop) (e : TypeId) (size : Nat) (v : Value) (n : Nat) : Prop :=
  (v = .slice none 0 0 ∧ n = 0) ∨ ∃ g off cap cur, v = .slice (some ⟨g, off, none⟩) n cap ∧ S g ∧ w.heap[g]? = some (.cells cur e (0, 0)) ∧ n ≤ cap ∧ cap ≤ maxLen ∧ off + cap * size ≤ cur.size
theorem Sl.wri {w : World} {S : Nat → Prop} {e : TypeId} {size : Nat} {v : Value} {xs : List Value} {n : Nat} (h : Sl w S e size v xs n) : Wri w S e size v n := by
  rcases h.2 with h | ⟨g, off, cap, cur, h1, h2, h3, h4, h5, h6, -⟩
  · exact .inl h
  · exact .inr ⟨g, off, cap, cur, h1, h2, h3, h4, h5, h6⟩
theorem Wri.sl {w : World} {S : Nat → Prop} {e : TypeId} {size : Nat} {v : Value} {n : Nat} (h : Wri w S e size v n) : ∃ xs, Sl w S e size v xs n := by
  rcases h with ⟨h1, h2⟩ | ⟨g, off, cap, cur, h1, h2, h3, h4, h5, h6⟩
  · exact ⟨[], by rw [h2]; simp, .inl ⟨h1, h2⟩⟩
  · refine ⟨(cur.toList.drop off).take (n * size), ?_, .inr ⟨g, off, cap, cur, h1, h2, h3, h4, h5, h6, rfl⟩⟩
    have hm : n * size ≤ cap * size := Nat.mul_le_mul_right _ h4
    simp only [List.length_take, List.length_drop, Array.length_toList]
    omega
theorem Wri.keeps {w w' : World} {S : Nat → Prop} {e : TypeId} {size : Nat} {v : Value} {n : Nat} (h : Wri w S e size v n) (hk : Keeps w w') : Wri w' S e size v n := by
  rcases h with h | ⟨g, off, cap, cur, h1, h2, h3, h4, h5, h6⟩
  · exact .inl h
  · obtain ⟨cur', q1, q2⟩ := hk g cur e h3
    exact .inr ⟨g, off, cap, cur', h1, h2, q1, h4, h5, by omega⟩
/-- a slice's block is of its kind -/
theorem Sl.kind {w : World} {S : Nat → Prop} {e : TypeId} {size : Nat} {v : Value} {xs : List Value} {n : Nat} (h : Sl w S e size v xs n) : Sl w (fun b => S b ∧ ∃ cur, w.heap[b]? = some (.cells cur e (0, 0))) e size v xs n := by
  refine ⟨h.1, ?_⟩
  rcases h.2 with h | ⟨g, off, cap, cur, h1, h2, h3, h4⟩
  · exact .inl h
  · exact .inr ⟨g, off, cap, cur, h1, ⟨h2, cur, h3⟩, h3, h4⟩

section
variable {P : Program} {w : World} {S : Nat → Prop} {e t tx : TypeId} {size bytes : Nat} {v x z : Value} {xs news : List Value} {n m : Nat} {i : TypeInfo}

/-- an append, whatever comes of its answer: blocks keep their shape -/
theorem Sl.append_keeps (h : Sl w S e size v xs n) (ht : P.underlying t = some (.slice e)) (hi : P.info? e = some i) (hz : i.zero = some z) (hsize : i.size = size) (hby : i.bytes = bytes)
    (hsrc : Src P size tx x m news w) (h63 : n + m ≤ maxLen) (hbytes : (n + m) * bytes ≤ 140737488355328) (ty : TypeId) :
    ∃ v' w', (Builtin.append_ #[t, tx] ty #[v, x]).run P w = .ok v' w' ∧ Keeps w w' ∧ Turned S w w' := by
  subst hsize
  subst hby
  rcases h.2 with ⟨rfl, rfl⟩ | ⟨g, off, cap, cur, rfl, hS, hg, hnc, hcm, hcs, htake⟩
  · have hx : xs = [] := List.eq_nil_of_length_eq_zero (by simpa using h.1)
    subst hx
    by_cases hm : m = 0
    · subst hm
      have hn : news = [] := List.eq_nil_of_length_eq_zero (by simpa using hsrc.newsLen)
      subst hn
      exact ⟨_, _, run_append_nothing w t tx ty e i ht hi none 0 0 (Nat.le_refl _) x hsrc, Keeps.refl _, Turned.refl _ _⟩
    · have hr := run_append_grow_src (P := P) w t tx ty e i z ht hi hz none 0 0 [] (run_firstCells_none w.drew i.size 0 0 0) x m news hsrc (by omega) (by simp only [maxLen] at h63; omega) (growslice_fits (by omega) (by simpa using hbytes))
      exact ⟨_, _, hr, (Keeps.drew w).trans (Keeps.alloc _ _), (Turned.drew S w).new _⟩
  · by_cases hroom : n + m ≤ cap
    · have hmul : (n + m) * i.size ≤ cap * i.size := Nat.mul_le_mul_right _ hroom
      have hfit : off + n * i.size + news.length ≤ cur.size := by rw [hsrc.newsLen, Nat.add_assoc, ← Nat.add_mul]; omega
      have hr := run_append_room_src (P := P) w t tx ty e i ht hi g off n cap x m news hsrc hroom (fun j hj => by simp [World.cell?, hg]; omega) (fun j hj => free_of hg _)
      exact ⟨_, _, hr, Keeps.setCells g _ _ _, Turned.setCells g hS _ _ _⟩
    · have hold : (Builtin.firstCells i.size n (.slice (some ⟨g, off, none⟩) n cap)).run P w.drew = .ok xs.toArray w.drew := by
        refine run_firstCells_some w.drew i.size n ⟨g, off, none⟩ n cap xs h.1 fun j u hu => ?_
        have hj : j < n * i.size := by rw [← h.1]; exact (List.getElem?_eq_some_iff.1 hu).1
        rw [← htake, List.getElem?_take, if_pos hj, List.getElem?_drop] at hu
        rw [Addr.add_lit]
        simpa [World.cell?, heap_drew, hg] using hu
      have hr := run_append_grow_src (P := P) w t tx ty e i z ht hi hz _ n cap xs hold x m news hsrc (by omega) (by simp only [maxLen] at h63; omega) (growslice_fits (by omega) hbytes)
      exact ⟨_, _, hr, (Keeps.drew w).trans (Keeps.alloc _ _), (Turned.drew S w).new _⟩

theorem wpList_append_keeps {ops : Array Oper} {rest : List Oper} {o : Oper} {a : Act} {Q : Exit → Act → World → Prop} (hgd : o.guard = none) (so xo : Operand) (t tx : TypeId)
    (ho : o.op = .call { callee := .builtin .append, args := #[so, xo], argTypes := #[t, tx] })
    (h : Sl w S e size v xs n) (ht : P.underlying t = some (.slice e)) (hinf : (P.info? e).map (fun i => (i.zero, i.size, i.bytes)) = some (some z, size, bytes))
    (hs : a.eval so = v) (x : Value) (hx : a.eval xo = x) (hsrc : Src P size tx x m news w) (h63 : n + m ≤ maxLen) (hbytes : (n + m) * bytes ≤ 140737488355328)
    (hK : ∀ v' w', Keeps w w' → Turned S w w' → wpList P ops Q rest (a.put o.dst v') w') : wpList P ops Q (o :: rest) a w := by
  obtain ⟨i, hi, hz0, hz1, hz2⟩ := info_parts hinf
  refine wpList_plain hgd fun K' hK' => ?_
  obtain ⟨v', w', hrun, r1, r2⟩ := h.append_keeps ht hi hz0 hz1 hz2 hsrc h63 hbytes o.type
  unfold Oper.wp
  simp [execOp, ho, resolve, invoke, builtin, hs, hx, hrun, Result.andThen]
  exact hK' _ _ (hK v' w' r1 r2)
end
end Go.Mine

namespace Go.Proofs.Ytfeljngmidhajaa
open Go.RowKit Go.Mine

theorem NewRows.kind {w : World} {R Q : Nat → Prop} {v : Value} {l : List Rw} (h : NewRows w R Q v l) : NewRows w (fun b => R b ∧ ∃ cur, w.heap[b]? = some (.cells cur 61 (0, 0))) (fun b => Q b ∧ ∃ cur, w.heap[b]? = some (.cells cur 3 (0, 0))) v l := by
  obtain ⟨vs, h1, h2, h3⟩ := h
  exact ⟨vs, h1, h2.kind, fun i r u hr hu => (h3 i r u hr hu).kind⟩

def RwSh (xs : List Value) (j : Nat) : Prop := ∃ (t g s : Int) (b : ByteArray), xs[j * 5 + 1]? = some (.int .i64 t) ∧ xs[j * 5 + 2]? = some (.int .i64 g) ∧ xs[j * 5 + 3]? = some (.int .i64 s) ∧ xs[j * 5 + 4]? = some (.string b)
def SpoRel (w1 : World) (L T : Nat → Prop) (v : Value) (vs : List Value) (n : Nat) (g : Nat) (i : Value) (wr : World) : Prop :=
  ∃ (k : Nat) (xs : List Value), k + g = n ∧ i = .int .i64 k ∧ Sl wr L 61 5 v xs n ∧ (∀ j, k ≤ j → j < n → xs[j * 5]? = vs[j]? ∧ RwSh xs j) ∧ Keeps w1 wr ∧ Turned (fun b => L b ∨ T b) w1 wr
def SpiRel (w1 : World) (T : Nat → Prop) (m : Nat) (g : Nat) (i : Value) (wr : World) : Prop :=
  ∃ k : Nat, k + g = m ∧ i = .int .i64 k ∧ Keeps w1 wr ∧ Turned T w1 wr

set_option maxRecDepth 100000 in
set_option maxHeartbeats 4000000 in
theorem spoilt_any (a : Option Addr) (c : Nat) (g : Gr) (w : World) (R Q : Nat → Prop) (h : NewRows w R Q (.slice a g.rows.length c) g.rows) (hp : ∀ r ∈ g.rows, r.par.length ≤ 17) (hn : g.rows.length ≤ 279620) :
    Calls Try.prog 71 #[grv a c g] w fun e w' => e = .returned (.tuple #[]) ∧ Turned (fun b => R b ∨ Q b) w w' := by
  obtain ⟨vs, hvs, hs, hl⟩ := h.kind
  obtain ⟨L, hL⟩ : ∃ L : Nat → Prop, L = fun b => R b ∧ ∃ cur, w.heap[b]? = some (.cells cur 61 (0, 0)) := ⟨_, rfl⟩
  obtain ⟨T, hT⟩ : ∃ T : Nat → Prop, T = fun b => Q b ∧ ∃ cur, w.heap[b]? = some (.cells cur 3 (0, 0)) := ⟨_, rfl⟩
  rw [← hL] at hs
  rw [← hT] at hl
  have HLT : Hid ((∀ b, L b → R b ∧ b < w.heap.size) ∧ (∀ b, T b → Q b ∧ b < w.heap.size) ∧ ∀ b, L b → ¬ T b) := by
    rw [hL, hT]
    refine ⟨fun b q => ⟨q.1, lt_of_block q.2.choose_spec⟩, fun b q => ⟨q.1, lt_of_block q.2.choose_spec⟩, fun b q z => ?_⟩
    obtain ⟨c1, h1⟩ := q.2
    obtain ⟨c2, h2⟩ := z.2
    rw [h1] at h2
    simp at h2
  clear hL hT h
  have HLI : Hid (∀ (i : Nat) (u : Value), vs[i]? = some u → ∃ m, m ≤ 17 ∧ Wri w T 3 1 u m) := fun i u hu => by
    have hi := (List.getElem?_eq_some_iff.1 hu).1
    have h1 : g.rows[i]? = some (g.rows[i]'(by omega)) := List.getElem?_eq_getElem (by omega)
    exact ⟨_, hp _ (List.getElem_mem _), (hl i _ u h1 hu).wri⟩
  have h0 : ∀ j, j < g.rows.length → (rowCs g.rows vs)[j * 5]? = vs[j]? ∧ RwSh (rowCs g.rows vs) j := fun j hj => by
    have h1 : g.rows[j]? = some g.rows[j] := List.getElem?_eq_getElem hj
    have h2 : vs[j]? = some (vs[j]'(by omega)) := List.getElem?_eq_getElem (by omega)
    obtain ⟨q0, q1, q2, q3, q4⟩ := rowCs_get g.rows vs j _ _ hvs h1 h2
    exact ⟨q0.trans h2.symm, _, _, _, _, q1, q2, q3, q4⟩
  generalize rowCs g.rows vs = xs0 at *
  obtain ⟨n, hnn⟩ : ∃ n, n = g.rows.length := ⟨_, rfl⟩
  unfold grv
  rw [← hnn] at hs hn hvs h0 ⊢
  have HN : Hid (n ≤ 279620 ∧ vs.length = n) := ⟨hn, hvs⟩
  generalize g.base = v0 at *
  generalize g.h = v1 at *
  generalize g.p = v2 at *
  generalize g.m = v3 at *
  generalize g.seed = v4 at *
  clear hp hl hnn hn hvs g
  have HS : Hid (Sl w L 61 5 (.slice a n c) xs0 n ∧ ∀ j, j < n → xs0[j * 5]? = vs[j]? ∧ RwSh xs0 j) := ⟨hs, h0⟩
  clear hs h0
  go_enter Try.func71, Try.ntmps71
  go_wp2
  have HB : Hid ((w.alloc (.cells #[.int .i64 v0, .int .i64 v1, .int .i64 v2, .int .i64 v3, .int .u32 (v4 : Nat), .slice a n c] 40)).heap[w.heap.size]? = some (.cells #[.int .i64 v0, .int .i64 v1, .int .i64 v2, .int .i64 v3, .int .u32 (v4 : Nat), .slice a n c] 40 (0, 0)) ∧ Keeps w (w.alloc (.cells #[.int .i64 v0, .int .i64 v1, .int .i64 v2, .int .i64 v3, .int .u32 (v4 : Nat), .slice a n c] 40)) ∧ Turned (fun _ => False) w (w.alloc (.cells #[.int .i64 v0, .int .i64 v1, .int .i64 v2, .int .i64 v3, .int .u32 (v4 : Nat), .slice a n c] 40)) ∧ (w.alloc (.cells #[.int .i64 v0, .int .i64 v1, .int .i64 v2, .int .i64 v3, .int .u32 (v4 : Nat), .slice a n c] 40)).heap.size = w.heap.size + 1) := ⟨heap_alloc_last w _, Keeps.alloc _ _, Turned.alloc _ _ _, by simp⟩
  generalize w.alloc (.cells #[.int .i64 v0, .int .i64 v1, .int .i64 v2, .int .i64 v3, .int .u32 (v4 : Nat), .slice a n c] 40) = w1 at *
  have HS0 : Hid (SpoRel w1 L T (.slice a n c) vs n n (.int .i64 0) w1) := ⟨0, xs0, by omega, rfl, HS.out.1.turned HB.out.2.2.1 (fun _ _ q => q), fun j _ hj => HS.out.2 j hj, Keeps.refl _, Turned.refl _ _⟩
  go_loopg [8] n (fun g i wr => SpoRel w1 L T (.slice a n c) vs n g i wr)
  case atStart => exact HS0.out
  case round =>
    obtain ⟨k, xs, hkg, rfl, hsx, hxs, hkp, htx⟩ := hrel
    have G : Hid (k + gk = n) := hkg
    have SX : Hid (Sl wr L 61 5 (.slice a n c) xs n ∧ ∀ j, k ≤ j → j < n → xs[j * 5]? = vs[j]? ∧ RwSh xs j) := ⟨hsx, hxs⟩
    have KX : Hid (Keeps w1 wr) := hkp
    have TX : Hid (Turned (fun b => L b ∨ T b) w1 wr) := htx
    have hb := (htx.block _ (lt_of_block HB.out.1) (fun q => q.elim (fun q => by have := HLT.out.1 _ q; omega) (fun q => by have := HLT.out.2.1 _ q; omega))).trans HB.out.1
    have BX : Hid (wr.heap[w.heap.size]? = some (.cells #[.int .i64 v0, .int .i64 v1, .int .i64 v2, .int .i64 v3, .int .u32 (v4 : Nat), .slice a n c] 40 (0, 0)) ∧ w1.heap.size ≤ wr.heap.size ∧ w1.heap.size = w.heap.size + 1) := ⟨hb, htx.size, HB.out.2.2.2⟩
    clear hkg hsx hxs hkp htx hb HS0
    obtain ⟨wo, rfl⟩ : ∃ W, W = wr := ⟨_, rfl⟩
    obtain ⟨go, rfl⟩ : ∃ x, x = gk := ⟨_, rfl⟩
    by_cases hlt : k < n
    · obtain ⟨gR, offR, cp, hv, hS, -, -, hcl, hfr, hgl⟩ := SX.out.1.opens (by omega)
      injection hv with e1 e2 e3
      subst e1
      subst e3
      have hxl := SX.out.1.1
      have hvl := HN.out.2
      have hu0 : vs[k]? = some (vs[k]'(by omega)) := List.getElem?_eq_getElem (by omega)
      generalize vs[k]'(by omega) = u at hu0
      obtain ⟨m, hm, hw⟩ := HLI.out k u hu0
      have hw1 := hw.keeps (HB.out.2.1.trans KX.out)
      obtain ⟨ys, hys⟩ := hw1.sl
      obtain ⟨au, cu, rfl, -, -⟩ := hys.value
      have WU : Hid (Wri wo T 3 1 (.slice au m cu) m ∧ m ≤ 17) := ⟨hw1, hm⟩
      have UK : Hid (vs[k]? = some (.slice au m cu)) := hu0
      obtain ⟨hx0, rt, rg, rs, rb, r1, r2, r3, r4⟩ := SX.out.2 k (Nat.le_refl _) hlt
      have c0 := (hcl (k * 5) (by omega)).trans (hx0.trans hu0)
      have c1 := (hcl (k * 5 + 1) (by omega)).trans r1
      have c2 := (hcl (k * 5 + 2) (by omega)).trans r2
      have c3 := (hcl (k * 5 + 3) (by omega)).trans r3
      have c4 := (hcl (k * 5 + 4) (by omega)).trans r4
      rw [← Nat.add_assoc] at c1 c2 c3 c4
      clear hx0 r1 r2 r3 r4
      have b5 := cell_of BX.out.1 5 _ rfl
      have bl := lt_of_block BX.out.1
      have HK : Hid (k < n ∧ L gR ∧ gR < wo.heap.size ∧ xs.length = n * 5) := ⟨hlt, hS, hgl, hxl⟩
      clear hcl hfr e2 hu0 hw hw1 hys hm hvl hxl hS
      go_wp2
      have HB2 : Hid ((wo.alloc (.cells #[.slice au m cu, .int .i64 rt, .int .i64 rg, .int .i64 rs, .string rb] 61)).heap[wo.heap.size]? = some (.cells #[.slice au m cu, .int .i64 rt, .int .i64 rg, .int .i64 rs, .string rb] 61 (0, 0)) ∧ Keeps wo (wo.alloc (.cells #[.slice au m cu, .int .i64 rt, .int .i64 rg, .int .i64 rs, .string rb] 61)) ∧ Turned (fun _ => False) wo (wo.alloc (.cells #[.slice au m cu, .int .i64 rt, .int .i64 rg, .int .i64 rs, .string rb] 61)) ∧ (wo.alloc (.cells #[.slice au m cu, .int .i64 rt, .int .i64 rg, .int .i64 rs, .string rb] 61)).heap.size = wo.heap.size + 1) := ⟨heap_alloc_last wo _, Keeps.alloc _ _, Turned.alloc _ _ _, by simp⟩
      clear c0 c1 c2 c3 c4 b5 bl hgl
      generalize wo.alloc (.cells #[.slice au m cu, .int .i64 rt, .int .i64 rg, .int .i64 rs, .string rb] 61) = w2 at *
      have WU2 : Hid (Wri w2 T 3 1 (.slice au m cu) m ∧ Keeps w1 w2 ∧ Turned (fun b => L b ∨ T b) w1 w2 ∧ Sl w2 L 61 5 (.slice (some ⟨gR, offR, none⟩) n c) xs n ∧ (∀ b, L b ∨ T b → b < w.heap.size) ∧ w.heap.size < wo.heap.size) := ⟨WU.out.1.keeps HB2.out.2.1, KX.out.trans HB2.out.2.1, TX.out.trans HB2.out.2.2.1 (fun _ _ q => q.elim), SX.out.1.turned HB2.out.2.2.1 (fun _ _ q => q), fun b q => q.elim (fun q => (HLT.out.1 b q).2) fun q => (HLT.out.2.1 b q).2, by have := BX.out.2; omega⟩
      go_loopg [16] m (fun g i wr => SpiRel w2 T m g i wr)
      case atStart => exact ⟨0, by omega, rfl, Keeps.refl _, Turned.refl _ _⟩
      case round =>
        obtain ⟨k2, hkg2, rfl, hk2, ht2⟩ := hrel
        have G2 : Hid (k2 + gk = m) := hkg2
        have K2 : Hid (Keeps w2 wr ∧ Turned T w2 wr) := ⟨hk2, ht2⟩
        obtain ⟨ys, hys⟩ := (WU2.out.1.keeps hk2).sl
        have YS : Hid (Sl wr T 3 1 (.slice au m cu) ys m) := hys
        have hb2 := (ht2.block _ (lt_of_block HB2.out.1) (fun q => by have := WU2.out.2.2.2.2.1 _ (.inr q); have := WU2.out.2.2.2.2.2; omega)).trans HB2.out.1
        have d0 := cell_of hb2 0 _ rfl
        have dl := lt_of_block hb2
        have HB3 : Hid (wr.heap[wo.heap.size]? = some (.cells #[.slice au m cu, .int .i64 rt, .int .i64 rg, .int .i64 rs, .string rb] 61 (0, 0))) := hb2
        clear hkg2 hk2 ht2 hb2
        by_cases hlt2 : k2 < m
        · obtain ⟨g2, off2, cp2, hv2, hS2, -, -, hcl2, hfr2, hgl2⟩ := hys.opens (by omega)
          injection hv2 with e1 e2 e3
          subst e1
          subst e3
          have hyl := hys.1
          have y0 := (hcl2 k2 (by omega)).trans (List.getElem?_eq_getElem (by omega))
          generalize ys[k2] = yv at y0
          have fy := hfr2 (off2 + k2)
          have HT2 : Hid (T g2) := hS2
          clear hcl2 hfr2 hyl e2 hys hS2
          go_wp2
          go_roundg (gk - 1)
          case measure => have := G2.out; omega
          case rel =>
            refine ⟨k2 + 1, by have := G2.out; omega, ?_, K2.out.1.trans (Keeps.setCell _ _ _ _), K2.out.2.set (p := ⟨g2, off2 + k2, none⟩) HT2.out _⟩
            have : wrap64 ((k2 : Int) + 1) = ((k2 + 1 : Nat) : Int) := by have := WU.out.2; simp [wrap64]; omega
            rw [this]
        · have m1 : Hid (m + 1 ≤ maxLen ∧ (m + 1) * 8 ≤ 140737488355328) := (by have := WU.out.2; simp only [maxLen]; omega : m + 1 ≤ maxLen ∧ (m + 1) * 8 ≤ 140737488355328)
          have hkm : k2 = m := by have := G2.out; omega
          have q1 : decide ((k2 : Int) < (m : Int)) = false := decide_eq_false (by omega)
          have q2 : decide (k2 < m) = false := decide_eq_false hlt2
          clear hlt2 hkm hys
          go_wp2_with (first
            | (at_builtin; refine wpList_append_keeps rfl (.tmp 25) (.tmp 26) 57 57 rfl (YS.out.turned (Turned.alloc (fun _ => False) _ _) fun _ _ q => q) Try.underlying57 info3i rfl (.slice (some ⟨wr.heap.size, 0, none⟩) 1 1) rfl (src_one Try.underlying57 (.int .i64 (-6)) rfl wr) m1.out.1 m1.out.2 ?_; intro v3 w3 hk3 ht3; have K3 : Hid (Keeps w1 w3 ∧ Turned T w2 w3) := ⟨((WU2.out.2.1.trans K2.out.1).trans (Keeps.alloc _ _)).trans hk3, (K2.out.2.new _).trans ht3 (fun _ _ q => q)⟩; have SL3 : Hid (Sl w3 L 61 5 (.slice (some ⟨gR, offR, none⟩) n c) xs n) := WU2.out.2.2.2.1.turned K3.out.2 (fun b q z => HLT.out.2.2 b q z); clear hk3 ht3; obtain ⟨gR2, offR2, cp2, hv, hS, -, -, hcl, hfr, hgl⟩ := SL3.out.opens (by have := HK.out.1; omega); injection hv with e1 e2 e3; injection e1 with e1; injection e1 with e4 e5 e6; subst e4; subst e5; subst e3; have hkn := HK.out.1; have hxl := HK.out.2.2.2; have c0 := (hcl (k * 5) (by omega)).trans (List.getElem?_eq_getElem (by omega)); have c1 := (hcl (k * 5 + 1) (by omega)).trans (List.getElem?_eq_getElem (by omega)); have c2 := (hcl (k * 5 + 2) (by omega)).trans (List.getElem?_eq_getElem (by omega)); have c3 := (hcl (k * 5 + 3) (by omega)).trans (List.getElem?_eq_getElem (by omega)); have c4 := (hcl (k * 5 + 4) (by omega)).trans (List.getElem?_eq_getElem (by omega)); have f0 := hfr (offR + k * 5); have f1 := hfr (offR + k * 5 + 1); have f2 := hfr (offR + k * 5 + 2); have f3 := hfr (offR + k * 5 + 3); have f4 := hfr (offR + k * 5 + 4); rw [← Nat.add_assoc] at c1 c2 c3 c4; generalize xs[k * 5] = z0 at c0; generalize xs[k * 5 + 1] = z1 at c1; generalize xs[k * 5 + 2] = z2 at c2; generalize xs[k * 5 + 3] = z3 at c3; generalize xs[k * 5 + 4] = z4 at c4; have hb5 := (K3.out.2.block _ (by have := HB2.out.2.2.2; have := BX.out.2; omega) (fun q => by have := WU2.out.2.2.2.2.1 _ (.inr q); omega)).trans ((HB2.out.2.2.1.block _ (lt_of_block BX.out.1) id).trans BX.out.1); have b5 := cell_of hb5 5 _ rfl; have bl := lt_of_block hb5; have hb6 := (K3.out.2.block _ (lt_of_block HB2.out.1) (fun q => by have := WU2.out.2.2.2.2.1 _ (.inr q); have := WU2.out.2.2.2.2.2; omega)).trans HB2.out.1; have d6 := cell_of hb6 0 _ rfl; have dl6 := lt_of_block hb6; clear hcl hfr hxl e2 hS hb5 hb6))
          go_roundg (go - 1)
          case measure => have := G.out; omega
          case rel =>
            have hLg := HK.out.2.1
            have hkn := HK.out.1
            obtain ⟨a1, b1, -⟩ := SL3.out.set (k * 5) (by omega) (.slice au m cu)
            obtain ⟨a2, b2, -⟩ := a1.set (k * 5 + 1) (by omega) (.int .i64 (-7))
            obtain ⟨a3, b3, -⟩ := a2.set (k * 5 + 2) (by omega) (.int .i64 0)
            obtain ⟨a4, b4, -⟩ := a3.set (k * 5 + 3) (by omega) (.int .i64 0)
            obtain ⟨a5, b5, -⟩ := a4.set (k * 5 + 4) (by omega) (.string ⟨#[]⟩)
            simp only [← Nat.add_assoc] at a5 b1 b2 b3 b4 b5
            have ts := (((b1.trans b2 fun _ _ q => q).trans b3 fun _ _ q => q).trans b4 fun _ _ q => q).trans b5 fun _ _ q => q
            have t1 := WU2.out.2.2.1.trans (K3.out.2.mono (S' := fun b => L b ∨ T b) fun b _ q => .inr q) fun _ _ q => q
            have kk := ((((K3.out.1.trans (Keeps.setCell w3 gR (offR + k * 5) (.slice au m cu))).trans (Keeps.setCell _ gR (offR + k * 5 + 1) (.int .i64 (-7)))).trans (Keeps.setCell _ gR (offR + k * 5 + 2) (.int .i64 0))).trans (Keeps.setCell _ gR (offR + k * 5 + 3) (.int .i64 0))).trans (Keeps.setCell _ gR (offR + k * 5 + 4) (.string ⟨#[]⟩))
            have hw : wrap64 ((k : Int) + 1) = ((k + 1 : Nat) : Int) := by have := HN.out.1; simp [wrap64]; omega
            refine ⟨k + 1, _, by have := G.out; omega, by rw [hw], a5, fun j hj hjn => ?_, kk, t1.trans ts fun b _ q => .inl q⟩
            have hne : ∀ (o : Nat) (d : Nat), d < 5 → ((((((xs.set (k * 5) (.slice au m cu)).set (k * 5 + 1) (.int .i64 (-7))).set (k * 5 + 2) (.int .i64 0)).set (k * 5 + 3) (.int .i64 0)).set (k * 5 + 4) (.string ⟨#[]⟩)))[j * 5 + d]? = xs[j * 5 + d]? := fun o d hd => by
              rw [List.getElem?_set_ne (by omega), List.getElem?_set_ne (by omega), List.getElem?_set_ne (by omega), List.getElem?_set_ne (by omega), List.getElem?_set_ne (by omega)]
            obtain ⟨q0, rt', rg', rs', rb', q1, q2, q3, q4⟩ := SX.out.2 j (by omega) hjn
            exact ⟨(hne 0 0 (by omega)).trans q0, rt', rg', rs', rb', (hne 0 1 (by omega)).trans q1, (hne 0 2 (by omega)).trans q2, (hne 0 3 (by omega)).trans q3, (hne 0 4 (by omega)).trans q4⟩
    · have m1 : Hid (n + 1 ≤ maxLen ∧ (n + 1) * 64 ≤ 140737488355328) := (by have := HN.out.1; simp only [maxLen]; omega : n + 1 ≤ maxLen ∧ (n + 1) * 64 ≤ 140737488355328)
      have q1 : decide ((k : Int) < (n : Int)) = false := decide_eq_false (by omega)
      have q2 : decide (k < n) = false := decide_eq_false hlt
      have b5 := cell_of BX.out.1 5 _ rfl
      have bl := lt_of_block BX.out.1
      clear hlt
      go_wp2_with (first
        | (at_builtin; refine wpList_append_keeps rfl (.tmp 37) (.tmp 39) 38 38 rfl (SX.out.1.turned (Turned.alloc (fun _ => False) _ _) fun _ _ q => q) Try.underlying38 info61 rfl (.slice (some ⟨wo.heap.size, 0, none⟩) 1 1) rfl (src_row wo (.slice none 0 0) (-8) 0 0 ⟨#[]⟩ rfl) m1.out.1 m1.out.2 ?_; intro v3 w3 hk3 ht3; have K3 : Hid (Turned L wo w3) := ((Turned.refl L wo).new _).trans ht3 (fun _ _ q => q); clear hk3 ht3))
      go_end0
      refine ⟨rfl, (HB.out.2.2.1.comp (TX.out.trans (K3.out.mono (S' := fun b => L b ∨ T b) fun b _ q => .inl q) fun _ _ q => q) (T := fun b => R b ∨ Q b) fun b hb q => q.elim (fun q => q.elim) fun q => q.elim (fun q => .inl (HLT.out.1 b q).1) fun q => .inr (HLT.out.2.1 b q).1)⟩
end Go.Proofs.Ytfeljngmidhajaa

namespace Go.Proofs.Ytfeljngmidhajaa
open Go.RowKit Go.Mine

def gOf (r : Except Nat Gr) : Gr := match r with
  | .error _ => ⟨0, 0, 0, 0, 0, []⟩
  | .ok g => g
def kOf (r : Except Nat Gr) : Nat := match r with
  | .error k => k
  | .ok _ => 0
theorem NewRows.nil (w : World) (R Q : Nat → Prop) : NewRows w R Q (.slice none 0 0) [] := ⟨[], rfl, Sl.nil _ _ _ _, fun i r u hr => by simp at hr⟩
theorem NewRows.bound {w : World} {R Q : Nat → Prop} {v : Value} {l : List Rw} (h : NewRows w R Q v l) : NewRows w (fun b => R b ∧ b < w.heap.size) (fun b => Q b ∧ b < w.heap.size) v l := by
  obtain ⟨vs, h1, h2, h3⟩ := h
  exact ⟨vs, h1, sl_bound h2, fun i r u hr hu => sl_bound (h3 i r u hr hu)⟩

def DecAns (w : World) (g : Gr) (k : Nat) (e : Ending) (w' : World) : Prop :=
  Turned (fun _ => False) w w' ∧ ∃ a c, e = .returned (.tuple #[grv a c g, .int .i64 (k : Nat)]) ∧ NewRows w' (fun b => w.heap.size ≤ b ∧ b < w'.heap.size) (fun b => w.heap.size ≤ b ∧ b < w'.heap.size) (.slice a g.rows.length c) g.rows
theorem dec_ans {w : World} {r : Except Nat Gr} {e : Ending} {w' : World} (h : DecPost w r e w') : DecAns w (gOf r) (kOf r) e w' := by
  obtain ⟨h1, h2⟩ := h
  cases r with
  | error k => exact ⟨h1, none, 0, h2, NewRows.nil _ _ _⟩
  | ok g =>
    obtain ⟨a, c, h3, h4⟩ := h2
    exact ⟨h1, a, c, h3, h4.bound⟩
theorem decR_ok (t : ByteArray) (g : Gr) (h : decR t = .ok g) : ∃ l, parseR t = .ok l ∧ progR l = some g ∧ encG g = .tuple #[.string t, .int .i64 0] := by
  unfold decR at h
  split at h
  · simp at h
  · rename_i l hl
    split at h
    · simp at h
    · rename_i g' hg
      split at h
      · rename_i he
        obtain rfl := Except.ok.inj h
        exact ⟨l, hl, hg, he⟩
      · simp at h
theorem dec_rows (t : ByteArray) : GrOk (gOf (decR t)) ∧ (∀ r ∈ (gOf (decR t)).rows, RdOk r) ∧ (gOf (decR t)).rows.length ≤ 279620 := by
  cases h : decR t with
  | error k => exact ⟨by show GrOk ⟨0, 0, 0, 0, 0, []⟩; unfold GrOk I64; decide, fun r hr => by simp [gOf] at hr, by simp [gOf]⟩
  | ok g =>
    obtain ⟨l, h1, h2, -⟩ := decR_ok t g h
    obtain ⟨hsm, h16, hbe, hbt, hri⟩ := parse_small t l h1
    refine progR_ok l g (fun id => ?_) h2
    have h3 := datC_le l id
    have h4 := ((buildErr_iff l).1 hbe).2.2
    omega
theorem rwIs_of {w : World} {S : Nat → Prop} {a : Option Addr} {c : Nat} {l : List Rw} (h : NewRows w S S (.slice a l.length c) l) (hok : ∀ r ∈ l, RdOk r) : RwIs w S a c l := h.rows hok

set_option maxRecDepth 100000 in
set_option maxHeartbeats 4000000 in
theorem decoded_any (t : ByteArray) (w : World) (hs : t.size ≤ 4611686018427387904) : Calls Try.prog 35 #[.string t] w fun e w' => e = .returned (.bool true) ∧ Turned (fun _ => False) w w' := by
  have hp : ∀ W, Calls Try.prog 34 #[.string t] W (DecAns W (gOf (decR t)) (kOf (decR t))) := fun W => (decode_any t W hs).mono fun e w' h => dec_ans h
  have hr : ∀ W, Calls Try.prog 70 #[.string t] W (DecAns W (gOf (decR t)) (kOf (decR t))) := fun W => (rdecode_any t W hs).mono fun e w' h => by rw [dec_same] at h; exact dec_ans h
  obtain ⟨-, hok, hlen⟩ := dec_rows t
  generalize gOf (decR t) = g at *
  generalize kOf (decR t) = k at *
  have HSM : Hid (∀ (W : World) (S1 S2 : Nat → Prop) (a b : Option Addr) (c d : Nat), NewRows W S1 S1 (.slice a g.rows.length c) g.rows → NewRows W S2 S2 (.slice b g.rows.length d) g.rows → Calls Try.prog 33 #[grv a c g, grv b d g] W fun e w' => e = .returned (.bool true) ∧ Turned (fun _ => False) W w') := fun W S1 S2 a b c d h1 h2 => by
    have q := grsame_any S1 S2 a b c d g g W (h1.rows hok) (h2.rows hok)
    rw [(sameG_iff g g).2 rfl] at q
    exact q
  have HSP : Hid (∀ (W : World) (R : Nat → Prop) (a : Option Addr) (c : Nat), NewRows W R R (.slice a g.rows.length c) g.rows → Calls Try.prog 71 #[grv a c g] W fun e w' => e = .returned (.tuple #[]) ∧ Turned R W w') := fun W R a c h => by
    refine (spoilt_any a c g W R R h (fun r hr => (hok r hr).2.2) hlen).mono ?_
    rintro e w' ⟨h1, h2⟩
    exact ⟨h1, h2.mono fun b _ q => q.elim id id⟩
  have HP : Hid (∀ W, Calls Try.prog 34 #[.string t] W (DecAns W g k)) := hp
  have HR : Hid (∀ W, Calls Try.prog 70 #[.string t] W (DecAns W g k)) := hr
  have HK : Hid True := trivial
  have hk1 := int_bne (k : Int) (k : Int) rfl
  clear hp hr hok hlen hs
  unfold DecAns grv at *
  generalize g.base = v0 at *
  generalize g.h = v1 at *
  generalize g.p = v2 at *
  generalize g.m = v3 at *
  generalize g.seed = v4 at *
  generalize g.rows = rows at *
  obtain ⟨n, hn⟩ : ∃ n, n = rows.length := ⟨_, rfl⟩
  rw [← hn] at HSM HSP HP HR
  clear hn
  have h34 := HP.out w
  go_enter Try.func35, Try.ntmps35
  go_wp2_with (first
    | (go_at_call 34; (with_reducible refine h34.mono ?_); rintro e w1 ⟨ht1, a1, c1, rfl, hr1⟩; have X1 : Hid (Turned (fun _ => False) w w1 ∧ NewRows w1 (fun b => w.heap.size ≤ b ∧ b < w1.heap.size) (fun b => w.heap.size ≤ b ∧ b < w1.heap.size) (.slice a1 n c1) rows) := ⟨ht1, hr1⟩; have h70 := HR.out (w1.alloc (.cells #[.int .i64 v0, .int .i64 v1, .int .i64 v2, .int .i64 v3, .int .u32 (v4 : Nat), .slice a1 n c1] 40)); clear ht1 hr1 h34)
    | (go_at_call 70; (with_reducible refine h70.mono ?_); rintro e w2 ⟨ht2, a2, c2, rfl, hr2⟩; have sz := (World.size_alloc w1 (.cells #[.int .i64 v0, .int .i64 v1, .int .i64 v2, .int .i64 v3, .int .u32 (v4 : Nat), .slice a1 n c1] 40)); have X2 : Hid (Turned (fun _ => False) w1 w2 ∧ w2.heap[w1.heap.size]? = some (.cells #[.int .i64 v0, .int .i64 v1, .int .i64 v2, .int .i64 v3, .int .u32 (v4 : Nat), .slice a1 n c1] 40 (0, 0)) ∧ NewRows w2 (fun b => w1.heap.size + 1 ≤ b ∧ b < w2.heap.size) (fun b => w1.heap.size + 1 ≤ b ∧ b < w2.heap.size) (.slice a2 n c2) rows ∧ w1.heap.size + 1 ≤ w2.heap.size) := (by rw [sz] at hr2; have z := ht2.size; rw [sz] at z; exact ⟨((Turned.refl (fun _ => False) w1).new _).trans ht2 (fun _ _ q => q), (ht2.block _ (by rw [sz]; omega) id).trans (heap_alloc_last w1 _), hr2, z⟩); clear ht2 hr2 h70 sz; have x0 := cell_of X2.out.2.1 0 _ rfl; have x1 := cell_of X2.out.2.1 1 _ rfl; have x2 := cell_of X2.out.2.1 2 _ rfl; have x3 := cell_of X2.out.2.1 3 _ rfl; have x4 := cell_of X2.out.2.1 4 _ rfl; have x5 := cell_of X2.out.2.1 5 _ rfl; have xl := lt_of_block X2.out.2.1; have h33 := HSM.out (w2.alloc (.cells #[.int .i64 v0, .int .i64 v1, .int .i64 v2, .int .i64 v3, .int .u32 (v4 : Nat), .slice a2 n c2] 40)) _ _ a1 a2 c1 c2 ((X1.out.2.turned X2.out.1 (fun _ _ q => q) (fun _ _ q => q)).turned (Turned.alloc (fun _ => False) _ _) (fun _ _ q => q) (fun _ _ q => q)) (X2.out.2.2.1.turned (Turned.alloc (fun _ => False) _ _) (fun _ _ q => q) (fun _ _ q => q)))
    | (go_at_call 33; (with_reducible refine h33.mono ?_); rintro e w3 ⟨rfl, ht3⟩; have sz := (World.size_alloc w2 (.cells #[.int .i64 v0, .int .i64 v1, .int .i64 v2, .int .i64 v3, .int .u32 (v4 : Nat), .slice a2 n c2] 40)); have X3 : Hid (Turned (fun _ => False) w2 w3 ∧ w3.heap[w1.heap.size]? = some (.cells #[.int .i64 v0, .int .i64 v1, .int .i64 v2, .int .i64 v3, .int .u32 (v4 : Nat), .slice a1 n c1] 40 (0, 0)) ∧ w3.heap[w2.heap.size]? = some (.cells #[.int .i64 v0, .int .i64 v1, .int .i64 v2, .int .i64 v3, .int .u32 (v4 : Nat), .slice a2 n c2] 40 (0, 0))) := (by have z := ((Turned.refl (fun _ => False) w2).new (.cells #[.int .i64 v0, .int .i64 v1, .int .i64 v2, .int .i64 v3, .int .u32 (v4 : Nat), .slice a2 n c2] 40)).trans ht3 (fun _ _ q => q); exact ⟨z, (z.block _ xl id).trans X2.out.2.1, (ht3.block _ (by rw [sz]; omega) id).trans (heap_alloc_last w2 _)⟩); clear ht3 h33 sz x0 x1 x2 x3 x4 x5 xl; have x0 := cell_of X3.out.2.1 0 _ rfl; have x1 := cell_of X3.out.2.1 1 _ rfl; have x2 := cell_of X3.out.2.1 2 _ rfl; have x3 := cell_of X3.out.2.1 3 _ rfl; have x4 := cell_of X3.out.2.1 4 _ rfl; have x5 := cell_of X3.out.2.1 5 _ rfl; have xl := lt_of_block X3.out.2.1; have h71 := HSP.out w3 _ a1 c1 ((X1.out.2.turned X2.out.1 (fun _ _ q => q) (fun _ _ q => q)).turned X3.out.1 (fun _ _ q => q) (fun _ _ q => q)))
    | (go_at_call 71; (with_reducible refine h71.mono ?_); rintro e w4 ⟨rfl, ht4⟩; have X4 : Hid (Turned (fun b => w.heap.size ≤ b ∧ b < w1.heap.size) w3 w4 ∧ Turned (fun _ => False) w w4 ∧ w4.heap[w2.heap.size]? = some (.cells #[.int .i64 v0, .int .i64 v1, .int .i64 v2, .int .i64 v3, .int .u32 (v4 : Nat), .slice a2 n c2] 40 (0, 0))) := ⟨ht4, ((X1.out.1.trans X2.out.1 fun _ _ q => q).trans X3.out.1 fun _ _ q => q).comp ht4 (fun b hb q => q.elim id fun q => by have q2 : w.heap.size ≤ b ∧ b < w1.heap.size := q; omega), (ht4.block _ (lt_of_block X3.out.2.2) (fun q => by have q2 : w.heap.size ≤ w2.heap.size ∧ w2.heap.size < w1.heap.size := q; have := X2.out.2.2.2; omega)).trans X3.out.2.2⟩; clear ht4 h71 x0 x1 x2 x3 x4 x5 xl; have h34b := HP.out w4)
    | (go_at_call 34; (with_reducible refine h34b.mono ?_); rintro e w5 ⟨ht5, a5, c5, rfl, hr5⟩; have X5 : Hid (Turned (fun _ => False) w4 w5 ∧ Turned (fun _ => False) w w5 ∧ w5.heap[w2.heap.size]? = some (.cells #[.int .i64 v0, .int .i64 v1, .int .i64 v2, .int .i64 v3, .int .u32 (v4 : Nat), .slice a2 n c2] 40 (0, 0)) ∧ NewRows w5 (fun b => w4.heap.size ≤ b ∧ b < w5.heap.size) (fun b => w4.heap.size ≤ b ∧ b < w5.heap.size) (.slice a5 n c5) rows) := ⟨ht5, X4.out.2.1.trans ht5 (fun _ _ q => q), (ht5.block _ (lt_of_block X4.out.2.2) id).trans X4.out.2.2, hr5⟩; clear ht5 hr5 h34b; have x0 := cell_of X5.out.2.2.1 0 _ rfl; have x1 := cell_of X5.out.2.2.1 1 _ rfl; have x2 := cell_of X5.out.2.2.1 2 _ rfl; have x3 := cell_of X5.out.2.2.1 3 _ rfl; have x4 := cell_of X5.out.2.2.1 4 _ rfl; have x5 := cell_of X5.out.2.2.1 5 _ rfl; have xl := lt_of_block X5.out.2.2.1; have nd : ∀ b, (w1.heap.size + 1 ≤ b ∧ b < w2.heap.size) → ¬ (w.heap.size ≤ b ∧ b < w1.heap.size) := fun b q z => (by omega); have h33b := HSM.out (w5.alloc (.cells #[.int .i64 v0, .int .i64 v1, .int .i64 v2, .int .i64 v3, .int .u32 (v4 : Nat), .slice a5 n c5] 40)) _ _ a5 a2 c5 c2 (X5.out.2.2.2.turned (Turned.alloc (fun _ => False) _ _) (fun _ _ q => q) (fun _ _ q => q)) ((((X2.out.2.2.1.turned X3.out.1 (fun _ _ q => q) (fun _ _ q => q)).turned X4.out.1 nd nd).turned X5.out.1 (fun _ _ q => q) (fun _ _ q => q)).turned (Turned.alloc (fun _ => False) _ _) (fun _ _ q => q) (fun _ _ q => q)); clear nd)
    | (go_at_call 33; (with_reducible refine h33b.mono ?_); rintro e w6 ⟨rfl, ht6⟩; have X6 : Hid (Turned (fun _ => False) w w6) := (X5.out.2.1.new _).trans ht6 (fun _ _ q => q); clear ht6 h33b))
  go_ret
  exact ⟨rfl, X6.out⟩

set_option maxRecDepth 100000 in
set_option maxHeartbeats 4000000 in
theorem gdecodes_law (t : ByteArray) (w : World) (hs : t.size ≤ 4611686018427387904) : Calls Try.prog 11 #[.string t] w fun e w' => e = .returned (.bool true) ∧ Turned (fun _ => False) w w' := by
  have f22 := tells_any w
  by_cases h1 : 1048576 < t.size
  · have d1 : decide ((1048576 : Int) < (t.size : Int)) = true := decide_eq_true (by omega)
    have d1n : decide (1048576 < t.size) = true := decide_eq_true h1
    have hp : ∀ W, Calls Try.prog 34 #[.string t] W (DecAns W (gOf (decR t)) (kOf (decR t))) := fun W => (decode_any t W hs).mono fun e w' h => dec_ans h
    have hq : kOf (decR t) ≠ 0 ∨ t.size ≤ 4194304 := by
      cases h : decR t with
      | error k =>
        left
        unfold decR at h
        split at h
        · rename_i k' hk
          have := parse_err t k' hk
          obtain rfl := Except.error.inj h
          exact this
        · split at h
          · obtain rfl := Except.error.inj h; simp [kOf]
          · split at h
            · simp at h
            · obtain rfl := Except.error.inj h; simp [kOf]
      | ok g =>
        right
        obtain ⟨l, h2, -, -⟩ := decR_ok t g h
        unfold parseR at h2
        split at h2
        · simp at h2
        · omega
    generalize kOf (decR t) = k at *
    generalize gOf (decR t) = g at *
    have HP : Hid (∀ W, Calls Try.prog 34 #[.string t] W (DecAns W g k)) := hp
    clear hp hs h1
    unfold DecAns grv at HP
    generalize g.base = v0 at *
    generalize g.h = v1 at *
    generalize g.p = v2 at *
    generalize g.m = v3 at *
    generalize g.seed = v4 at *
    generalize g.rows = rows at *
    generalize rows.length = n at *
    by_cases hk : k = 0
    · have hz : t.size ≤ 4194304 := hq.resolve_left (fun z => z hk)
      have d2 : decide ((t.size : Int) ≤ 4194304) = true := decide_eq_true (by omega)
      have d2n : decide (t.size ≤ 4194304) = true := decide_eq_true hz
      subst hk
      clear hq hz
      go_enter Try.func11, Try.ntmps11
      go_wp2_with (first
        | (go_at_call 22; (with_reducible refine f22.mono ?_); rintro e w1 ⟨rfl, ht1⟩; have h34 := HP.out w1)
        | (go_at_call 34; (with_reducible refine h34.mono ?_); rintro e w2 ⟨ht2, a2, c2, rfl, -⟩; have Y2 : Hid (Turned (fun _ => False) w (w2.alloc (.cells #[.int .i64 v0, .int .i64 v1, .int .i64 v2, .int .i64 v3, .int .u32 (v4 : Nat), .slice a2 n c2] 40))) := (ht1.trans ht2 (fun _ _ q => q)).new _; clear ht2 h34))
      go_ret
      exact ⟨rfl, Y2.out⟩
    · have hd := int_neb (k : Int) 0 (by omega)
      have hd2 := int_bne2 (k : Int) 0 (by omega)
      clear hq hk
      go_enter Try.func11, Try.ntmps11
      go_wp2_with (first
        | (go_at_call 22; (with_reducible refine f22.mono ?_); rintro e w1 ⟨rfl, ht1⟩; have h34 := HP.out w1)
        | (go_at_call 34; (with_reducible refine h34.mono ?_); rintro e w2 ⟨ht2, a2, c2, rfl, -⟩; have Y2 : Hid (Turned (fun _ => False) w (w2.alloc (.cells #[.int .i64 v0, .int .i64 v1, .int .i64 v2, .int .i64 v3, .int .u32 (v4 : Nat), .slice a2 n c2] 40))) := (ht1.trans ht2 (fun _ _ q => q)).new _; clear ht2 h34))
      go_ret
      exact ⟨rfl, Y2.out⟩
  · have d1 : decide ((1048576 : Int) < (t.size : Int)) = false := decide_eq_false (by omega)
    have d1n : decide (1048576 < t.size) = false := decide_eq_false h1
    have hdc := fun W => decoded_any t W hs
    clear hs h1
    go_enter Try.func11, Try.ntmps11
    go_wp2_with (first
      | (go_at_call 22; (with_reducible refine f22.mono ?_); rintro e w1 ⟨rfl, ht1⟩; have h35 := hdc w1)
      | (go_at_call 35; (with_reducible refine h35.mono ?_); rintro e w2 ⟨rfl, ht2⟩; have Y2 : Hid (Turned (fun _ => False) w w2) := ht1.trans ht2 (fun _ _ q => q); clear ht2 h35))
    go_ret
    exact ⟨rfl, Y2.out⟩
end Go.Proofs.Ytfeljngmidhajaa
