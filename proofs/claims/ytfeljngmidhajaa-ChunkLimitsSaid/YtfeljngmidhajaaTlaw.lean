/- What is taken as a container's table and data is just what Build lays. -/
import Derived.Test.YtfeljngmidhajaaTblp
namespace Go.Proofs.Ytfeljngmidhajaa
open Go.RowKit Go.Mine

/-- do the IDs rise, from above 0? the last one -/
def chkStep (o : Option Nat) (e : Nat × Nat) : Option Nat := o.bind fun last => if last < e.1 then some e.1 else none
def chk (t : List (Nat × Nat)) : Option Nat := t.foldl chkStep (some 0)
theorem chk_snoc (t : List (Nat × Nat)) (e : Nat × Nat) : chk (t ++ [e]) = chkStep (chk t) e := by simp [chk]
theorem chk_none (t r : List (Nat × Nat)) (h : chk t = none) : chk (t ++ r) = none := by
  induction r using snocInd with
  | h0 => simpa using h
  | h1 r e ih => rw [← List.append_assoc, chk_snoc, ih]; rfl
theorem chk_some (t : List (Nat × Nat)) (m : Nat) (h : chk t = some m) : t.Pairwise (fun a b => a.1 < b.1) ∧ ∀ e ∈ t, e.1 ≠ 0 ∧ e.1 ≤ m := by
  induction t using snocInd generalizing m with
  | h0 => exact ⟨List.Pairwise.nil, fun e he => by simp at he⟩
  | h1 t e ih =>
    rw [chk_snoc] at h
    cases hc : chk t with
    | none => rw [hc] at h; simp [chkStep] at h
    | some k =>
      rw [hc] at h
      simp only [chkStep, Option.bind_some] at h
      split at h
      · rename_i hk
        obtain rfl := Option.some.inj h
        obtain ⟨i1, i2⟩ := ih k hc
        refine ⟨List.pairwise_append.2 ⟨i1, by simp, fun a ha b hb => ?_⟩, fun a ha => ?_⟩
        · rw [List.mem_singleton] at hb; subst hb
          have := (i2 a ha).2; omega
        · rcases List.mem_append.1 ha with ha | ha
          · have := i2 a ha; exact ⟨this.1, by omega⟩
          · rw [List.mem_singleton] at ha; subst ha; omega
      · simp at h
theorem chk_of (t : List (Nat × Nat)) (h1 : t.Pairwise (fun a b => a.1 < b.1)) (h2 : ∀ e ∈ t, e.1 ≠ 0) : ∃ m, chk t = some m ∧ (m = 0 ∨ ∃ e ∈ t, e.1 = m) := by
  induction t using snocInd with
  | h0 => exact ⟨0, rfl, .inl rfl⟩
  | h1 t e ih =>
    obtain ⟨p1, -, p3⟩ := List.pairwise_append.1 h1
    obtain ⟨m, i1, i2⟩ := ih p1 fun e he => h2 e (List.mem_append_left _ he)
    have hlt : m < e.1 := by
      rcases i2 with rfl | ⟨a, ha, rfl⟩
      · have := h2 e (by simp); omega
      · exact p3 a ha e (by simp)
    exact ⟨e.1, by rw [chk_snoc, i1]; simp [chkStep, hlt], .inr ⟨e, by simp, rfl⟩⟩

/-- what the program takes: text without magic and sum -/
def progT (s : ByteArray) : Option (List Ch) :=
  let c := rdNum s (0, 0) 1
  if 16 < c.1 then none else
  let t := tabK s c.2 c.1
  if chk t.1 = none then none else
  let d := dat s t.2 t.1
  if d.2.2 ≠ 0 ∨ d.2.1 < s.size then none else some d.1
/-- what the document reads ahead of its checks -/
def readT (s : ByteArray) : List Ch :=
  let c := rdNum s (0, 0) 1
  if 16 < c.1 then [] else (dat s (tabK s c.2 c.1).2 (tabK s c.2 c.1).1).1

/-- a container's bytes without magic and sum -/
def innerCh (l : List Ch) : List UInt8 := num l.length 1 ++ tableCh l ++ dataCh l

theorem dat_bad (s : ByteArray) (st : Nat × Nat) (t : List (Nat × Nat)) (h : st.2 ≠ 0) : (dat s st t).2 = st := by
  induction t using snocInd with
  | h0 => rfl
  | h1 t e ih => rw [dat_snoc]; simp only [datStep, ih]; rw [rdRaw_bad s st _ h]
theorem tabK_bad (s : ByteArray) (st : Nat × Nat) (k : Nat) (h : st.2 ≠ 0) : (tabK s st k).2 = st := by
  induction k with
  | zero => rfl
  | succ k ih =>
    have h1 : (rdNum s st 4).2 = st := by rw [rdNum, rdRaw_bad s st _ h]
    rw [tabK]
    simp only [ih, h1]

theorem progT_parts (s : ByteArray) (l : List Ch) (h : progT s = some l) : ∃ (c : Nat × (Nat × Nat)) (t : List (Nat × Nat) × (Nat × Nat)) (d : List Ch × (Nat × Nat)), c = rdNum s (0, 0) 1 ∧ t = tabK s c.2 c.1 ∧ d = dat s t.2 t.1 ∧ ¬ 16 < c.1 ∧ chk t.1 ≠ none ∧ d.2.2 = 0 ∧ ¬ d.2.1 < s.size ∧ d.1 = l := by
  unfold progT at h
  simp only at h
  split at h
  · simp at h
  · rename_i hc
    split at h
    · simp at h
    · rename_i hk
      split at h
      · simp at h
      · rename_i hd
        exact ⟨_, _, _, rfl, rfl, rfl, hc, hk, Classical.byContradiction fun q => hd (.inl q), fun q => hd (.inr q), Option.some.inj h⟩

theorem progT_some (s : ByteArray) (l : List Ch) (h : progT s = some l) : Rising l ∧ (∀ c ∈ l, c.1 ≠ 0) ∧ l.length ≤ 16 ∧ s.data.toList = innerCh l ∧ readT s = l := by
  obtain ⟨c, t, d, hc, ht, hd, h16, hk, hd1, hd2, rfl⟩ := progT_parts s l h
  have hread : readT s = d.1 := by
    unfold readT
    simp only
    rw [← hc, if_neg h16, ← ht, ← hd]
  have ht1 : t.2.2 = 0 := by
    apply Classical.byContradiction; intro q
    rw [hd, dat_bad _ _ _ q] at hd1; exact q hd1
  have hc1 : c.2.2 = 0 := by
    apply Classical.byContradiction; intro q
    rw [ht, tabK_bad _ _ _ q] at ht1; exact q ht1
  have hc1' := hc1
  rw [hc] at hc1'
  obtain ⟨-, c2, c3⟩ := rdNum_next s _ 1 hc1'
  have cb := rdNum_bytes s _ 1 hc1'
  rw [← hc] at c3 cb
  simp only [Nat.zero_add, List.drop_zero] at c2 c3 cb
  rw [c3] at ht
  have ht1' := ht1
  rw [ht] at ht1'
  obtain ⟨t1, t2, t3⟩ := tabK_bytes s 1 c.1 ht1' c2
  have tl := tabK_length s (1, 0) c.1
  rw [← ht] at t2 t3 tl
  rw [t2] at hd
  have hd1' := hd1
  rw [hd] at hd1'
  obtain ⟨d1, d2, d3, d4⟩ := dat_bytes s (1 + 8 * c.1) t.1 hd1' t1
  rw [← hd] at d2 d3 d4
  have hlen : d.1.length = c.1 := by
    have := congrArg List.length d3
    simp only [ixOf, List.length_map] at this
    rw [this, tl]
  obtain ⟨m, hm⟩ : ∃ m, chk t.1 = some m := by
    cases hq : chk t.1 with
    | none => exact absurd hq hk
    | some m => exact ⟨m, rfl⟩
  obtain ⟨k1, k2⟩ := chk_some t.1 m hm
  have hdone : 1 + 8 * c.1 + sizes t.1 = s.size := by
    rw [d2] at hd2
    simp only at hd2
    omega
  refine ⟨?_, fun e hem => ?_, by omega, ?_, hread⟩
  · rw [← d3, ixOf, List.pairwise_map] at k1
    exact k1
  · exact (k2 (e.1, e.2.size) (by rw [← d3]; exact List.mem_map.2 ⟨e, hem, rfl⟩)).1
  · have e1 : s.data.toList = s.data.toList.take 1 ++ ((s.data.toList.drop 1).take (8 * c.1) ++ (s.data.toList.drop (1 + 8 * c.1)).take (sizes t.1)) := by
      rw [List.take_of_length_le (l := s.data.toList.drop (1 + 8 * c.1)) (by simp; omega), ← List.drop_drop, List.take_append_drop, List.take_append_drop]
    rw [e1, ← t3, ← d4, innerCh, tableCh_ix, d3, hlen, cb, List.append_assoc]

theorem readT_inner (s : ByteArray) (l : List Ch) (hl : l.length ≤ 16) (hs : ∀ c ∈ l, c.1 < 4294967296 ∧ c.2.size < 4294967296) (h : s.data.toList = innerCh l) :
    rdNum s (0, 0) 1 = (l.length, (1, 0)) ∧ tabK s (1, 0) l.length = (ixOf l, (1 + 8 * l.length, 0)) ∧ dat s (1 + 8 * l.length, 0) (ixOf l) = (l, (1 + 8 * l.length + dataSize l, 0)) ∧ 1 + 8 * l.length + dataSize l = s.size := by
  have hz : s.size = 1 + 8 * l.length + dataSize l := by
    have := congrArg List.length h
    simp [innerCh, num_length, tableCh_length, dataCh_length] at this
    omega
  have h1 : s.data.toList.drop 0 = num l.length 1 ++ (tableCh l ++ dataCh l) := by rw [List.drop_zero, h, innerCh, List.append_assoc]
  have e1 := rdNum_there s 0 l.length 1 _ h1 (by omega) (by omega)
  have h2 : s.data.toList.drop 1 = tableIx (ixOf l) ++ dataCh l := by
    have := congrArg (List.drop 1) h1
    rw [List.drop_zero] at this
    rw [this, ← tableCh_ix]
    have : (num l.length 1).length = 1 := num_length _ _
    rw [List.drop_append_of_le_length (by omega), List.drop_of_length_le (by omega)]
    rfl
  have e2 := tabK_there s 1 _ (ixOf l) h2 (by omega) fun e he => by
    obtain ⟨c, hc, rfl⟩ := List.mem_map.1 he
    exact hs c hc
  have hil : (ixOf l).length = l.length := by simp [ixOf]
  rw [hil] at e2
  have h3 : s.data.toList.drop (1 + 8 * l.length) = dataCh l ++ [] := by
    rw [← List.drop_drop, h2, List.append_nil, ← hil, ← tableIx_length, List.drop_left]
  have e3 := dat_there s (1 + 8 * l.length) l [] h3 (by omega)
  exact ⟨e1, e2, e3, by omega⟩

theorem progT_of (s : ByteArray) (l : List Ch) (hr : Rising l) (h0 : ∀ c ∈ l, c.1 ≠ 0) (hl : l.length ≤ 16) (hs : ∀ c ∈ l, c.1 < 4294967296 ∧ c.2.size < 4294967296) (h : s.data.toList = innerCh l) : progT s = some l := by
  obtain ⟨e1, e2, e3, e4⟩ := readT_inner s l hl hs h
  obtain ⟨m, hm, -⟩ := chk_of (ixOf l) (by rw [ixOf, List.pairwise_map]; exact hr) fun e he => by
    obtain ⟨c, hc, rfl⟩ := List.mem_map.1 he
    exact h0 c hc
  unfold progT
  simp only [e1, e2, e3]
  rw [if_neg (by omega), if_neg (by rw [hm]; simp), if_neg (by simp; omega)]

theorem checkCh_of (l : List Ch) : ∀ pre : List Ch, ((pre ++ l).map (·.1)).Nodup → (∀ c ∈ l, c.1 ≠ 0) → checkCh pre l = 0 := by
  induction l with
  | nil => intro pre _ _; rfl
  | cons c l ih =>
    intro pre hn h0
    unfold checkCh
    have hh : hasCh pre c.1 = false := by
      unfold hasCh
      rw [List.any_eq_false]
      intro d hd q
      rw [List.map_append, List.nodup_append] at hn
      exact hn.2.2 d.1 (List.mem_map.2 ⟨d, hd, rfl⟩) c.1 (by simp) (by simpa using q)
    rw [if_neg (h0 c (by simp)), hh, if_neg (by simp)]
    exact ih _ (by rw [List.append_assoc]; exact hn) fun d hd => h0 d (List.mem_cons_of_mem _ hd)
theorem rising_nodup (l : List Ch) (h : Rising l) : (l.map (·.1)).Nodup := by
  rw [List.Nodup, List.pairwise_map]
  exact h.imp fun q => Nat.ne_of_lt q
theorem sortCh_rise (l : List Ch) (h : Rising l) : sortCh l = l := rising_unique _ _ (sortCh_rising l (rising_nodup l h)) h (sortCh_perm l)

theorem buildErr_iff (l : List Ch) : buildErr l = 0 ↔ l.length ≤ 16 ∧ checkCh [] l = 0 ∧ 10 + 8 * l.length + dataSize l ≤ 4194304 := by
  unfold buildErr
  split
  · constructor
    · intro h; omega
    · intro h; omega
  · split
    · rename_i h1 h2
      constructor
      · intro h; exact absurd h h2
      · intro h; exact absurd h.2.1 h2
    · split
      · constructor
        · intro h; omega
        · intro h; omega
      · rename_i h1 h2 h3
        exact ⟨fun _ => ⟨by omega, by simpa using h2, by omega⟩, fun _ => rfl⟩
end Go.Proofs.Ytfeljngmidhajaa
