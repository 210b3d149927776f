/- The kind of a name: find goes through a map in whatever order. -/
import Derived.Test.YteblabpplaaddaaGreatDoorWm
import Derived.Maps.RangeWalk
import Derived.Deep.LoopGhost
set_option linter.unusedVariables false
set_option linter.unusedSimpArgs false
namespace Go.Mine
open Go.ChangeMaps (setBlock)
section
variable {P : Program} (w : World) {ops : Array Oper} {rest : List Oper} {o : Oper} {a : Act} {Q : Exit → Act → World → Prop}

theorem setBlock_heap (w : World) (r : Nat) (o' : Obj) (k : Nat) (h : k ≠ r) : (setBlock w r o').heap[k]? = w.heap[k]? := by
  unfold setBlock
  simp only [Array.getElem?_setIfInBounds]
  rw [if_neg (Ne.symm h)]
theorem setBlock_same {w : World} {r : Nat} {o : Obj} (o' : Obj) (h : w.heap[r]? = some o) : (setBlock w r o').heap[r]? = some o' := by
  unfold setBlock
  have := (Array.getElem?_eq_some_iff.1 h).1
  simp [this]
theorem Turned.setBlock (w : World) (r : Nat) (o' : Obj) : Turned (· = r) w (setBlock w r o') :=
  ⟨rfl, rfl, rfl, by unfold ChangeMaps.setBlock; simp, fun k _ hk => setBlock_heap w r o' k hk⟩

/-- the step of a range over a map that nobody writes -/
theorem wpList_next_at (hg : o.guard = none) (it : Operand) (hop : o.op = Op.next it false) (r bm since c0 : Nat) (seen : Array Nat) (es : Array MapEntry) (clock : Nat)
    (hit : a.eval it = .pointer (some ⟨r, 0, none⟩)) (hr : w.heap[r]? = some (.mapIter (some bm) since seen c0)) (hb : w.heap[bm]? = some (.map es clock)) (hold : ∀ x ∈ es.toList, x.born < since) (hsc : since ≤ c0)
    (hDone : (leftOf es seen).size = 0 → wpList P ops Q rest (a.put o.dst (.tuple #[.bool false])) w)
    (hMore : ∀ e ∈ (leftOf es seen).toList, ∀ w1 : World, (w1 = w ∨ w1 = w.drew) → wpList P ops Q rest (a.put o.dst (.tuple #[.bool true, e.key, e.val])) (setBlock w1 r (.mapIter (some bm) since (seen.push e.born) clock))) :
    wpList P ops Q (o :: rest) a w := by
  refine wpList_plain hg fun K' hK' => ?_
  unfold Oper.wp
  rcases run_next_at (P := P) w o.type r bm since c0 seen es clock hr hb hold hsc with ⟨h0, hrun⟩ | ⟨e, he, w1, hw, hrun⟩
  · simp [execOp, hop, hit, hrun, Result.andThen]
    exact hK' _ _ (hDone h0)
  · simp [execOp, hop, hit, hrun, Result.andThen]
    exact hK' _ _ (hMore e he w1 hw)
end
end Go.Mine
namespace Go.Proofs.YteblabpplaaddaaGreatDoor
open Go.RowKit Go.Mine Go.Mine.Sc
open Go.ChangeMaps (setBlock)

/-- what find has found, those of seen having come -/
def Found (l : List (Int × B)) (name : B) (seen : Array Nat) (k : Int) : Prop :=
  (k = 0 ∧ ∀ (j : Nat) p, l[j]? = some p → j ∈ seen → p.2 ≠ name) ∨ ∃ (j : Nat) (p : Int × B), l[j]? = some p ∧ j ∈ seen ∧ p.2 = name ∧ k = p.1

theorem Found.step_eq {l : List (Int × B)} {name : B} {seen : Array Nat} {j : Nat} {p : Int × B} (hp : l[j]? = some p) (hn : p.2 = name) : Found l name (seen.push j) p.1 :=
  .inr ⟨j, p, hp, by simp, hn, rfl⟩
theorem Found.step_ne {l : List (Int × B)} {name : B} {seen : Array Nat} {k : Int} {j : Nat} {p : Int × B} (h : Found l name seen k) (hp : l[j]? = some p) (hn : p.2 ≠ name) : Found l name (seen.push j) k := by
  rcases h with ⟨rfl, h⟩ | ⟨i, q, h1, h2, h3⟩
  · refine .inl ⟨rfl, fun i q hq hi => ?_⟩
    rcases Array.mem_push.1 hi with hi | rfl
    · exact h i q hq hi
    · rw [hp] at hq; obtain rfl := Option.some.inj hq; exact hn
  · exact .inr ⟨i, q, h1, by simp [h2], h3⟩

theorem mapEs_at : ∀ (i : Nat) (l : List (Int × B)) (e : MapEntry), e ∈ mapEs i l → ∃ p, l[e.born - i]? = some p ∧ i ≤ e.born ∧ e.key = .int .i64 p.1 ∧ e.val = .agg #[.string (bs p.2)]
  | i, [], e, h => by simp [mapEs] at h
  | i, p :: l, e, h => by
    simp only [mapEs, List.mem_cons] at h
    rcases h with rfl | h
    · exact ⟨p, by simp, Nat.le_refl _, rfl, rfl⟩
    · obtain ⟨q, h1, h2, h3, h4⟩ := mapEs_at (i + 1) l e h
      refine ⟨q, ?_, by omega, h3, h4⟩
      rw [show e.born - i = (e.born - (i + 1)) + 1 by omega]
      simpa using h1
theorem mapEs_has : ∀ (i : Nat) (l : List (Int × B)) (j : Nat) (p : Int × B), l[j]? = some p → ({ key := .int .i64 p.1, val := .agg #[.string (bs p.2)], born := i + j } : MapEntry) ∈ mapEs i l
  | i, [], j, p, h => by simp at h
  | i, q :: l, 0, p, h => by simp at h; subst h; simp [mapEs]
  | i, q :: l, j + 1, p, h => by
    have := mapEs_has (i + 1) l j p (by simpa using h)
    simp only [mapEs, List.mem_cons]
    right
    rw [show i + (j + 1) = i + 1 + j by omega]
    exact this

theorem Found.done {l : List (Int × B)} {name : B} {seen : Array Nat} {k : Int} (h : Found l name seen k) (hl : (leftOf (mapEa l) seen).size = 0) (hnd : (l.map (·.2)).Nodup) : k = kindIn l name := by
  have hall : ∀ (j : Nat) p, l[j]? = some p → j ∈ seen := fun j p hj => by
    have hm := mapEs_has 0 l j p hj
    have he : leftOf (mapEa l) seen = #[] := Array.eq_empty_of_size_eq_zero hl
    unfold leftOf at he
    rw [Array.filter_eq_empty_iff] at he
    have := he _ (by unfold mapEa; simpa using hm)
    simpa using this
  unfold kindIn
  rcases h with ⟨rfl, h⟩ | ⟨j, p, h1, h2, h3, rfl⟩
  · have : l.find? (fun p => p.2 == name) = none := by
      rw [List.find?_eq_none]
      intro p hp
      obtain ⟨j, hj⟩ := List.getElem?_of_mem hp
      simpa using h j p hj (hall j p hj)
    rw [this]
  · cases hf : l.find? (fun p => p.2 == name) with
    | none =>
      rw [List.find?_eq_none] at hf
      exact absurd h3 (by simpa using hf p (List.mem_of_getElem? h1))
    | some q =>
      have hq := List.mem_of_find?_eq_some hf
      have hq2 : q.2 = name := by simpa using List.find?_some hf
      obtain ⟨i, hi⟩ := List.getElem?_of_mem hq
      have : i = j := by
        have h5 : (l.map (·.2))[i]? = some name := by rw [List.getElem?_map, hi]; simp [hq2]
        have h6 : (l.map (·.2))[j]? = some name := by rw [List.getElem?_map, h1]; simp [h3]
        exact (List.getElem?_inj (Array.getElem?_eq_some_iff.1 (by simpa using h5 : (l.map (·.2)).toArray[i]? = some name)).1 hnd).1 (h5.trans h6.symm)
      subst this
      rw [h1] at hi
      obtain rfl := Option.some.inj hi
      rfl

theorem left_push (l : List (Int × B)) (seen : Array Nat) (e : MapEntry) (he : e ∈ (leftOf (mapEa l) seen).toList) : (leftOf (mapEa l) (seen.push e.born)).size < (leftOf (mapEa l) seen).size := by
  unfold leftOf at *
  have hsub : (mapEa l).filter (fun x => !(seen.push e.born).contains x.born) = ((mapEa l).filter (fun x => !seen.contains x.born)).filter (fun x => !(x.born == e.born)) := by
    rw [Array.filter_filter]
    congr 1
    funext x
    simp only [Array.contains_push]
    cases seen.contains x.born <;> cases h : x.born == e.born <;> simp_all
  rw [hsub]
  generalize (mapEa l).filter (fun x => !seen.contains x.born) = L at *
  have h1 : (L.filter (fun x => !(x.born == e.born))).size = (L.toList.filter (fun x => !(x.born == e.born))).length := by
    cases L; simp
  rw [h1, ← Array.length_toList]
  exact List.length_filter_lt_length_iff_exists.2 ⟨e, he, by simp⟩

theorem born_lt (l : List (Int × B)) : ∀ x ∈ (mapEa l).toList, x.born < l.length := fun x hx => by
  obtain ⟨p, -, j, -, h2, rfl⟩ := mapEs_mem 0 l x (by simpa [mapEa] using hx)
  simpa using h2
theorem born_nodup : ∀ (i : Nat) (l : List (Int × B)), ((mapEs i l).map (·.born)).Nodup ∧ ∀ e ∈ mapEs i l, i ≤ e.born
  | i, [] => by simp [mapEs]
  | i, p :: l => by
    obtain ⟨h1, h2⟩ := born_nodup (i + 1) l
    refine ⟨?_, ?_⟩
    · simp only [mapEs, List.map_cons, List.nodup_cons]
      refine ⟨fun h => ?_, h1⟩
      obtain ⟨e, he, hb⟩ := List.mem_map.1 h
      have := h2 e he
      omega
    · intro e he
      simp only [mapEs, List.mem_cons] at he
      rcases he with rfl | he
      · exact Nat.le_refl _
      · have := h2 e he; omega

theorem ba_ne2 (m k : ByteArray) (h : m ≠ k) : (m.toList == k.toList) = false := by
  rw [ByteArray.toList_eq, ByteArray.toList_eq]
  simp only [beq_eq_false_iff_ne, ne_eq]
  intro q
  exact h (ByteArray.ext (Array.toList_inj.1 q))
theorem ba_ne (m : ByteArray) (l : B) (h : m ≠ bs l) : (m.toList == l) = false := by
  rw [ByteArray.toList_eq]
  simp only [beq_eq_false_iff_ne, ne_eq]
  intro q
  exact h (by rw [← q])
theorem bs_inj {a b : B} (h : bs a = bs b) : a = b := by
  have := congrArg (fun x : ByteArray => x.data.toList) h
  simpa using this

/-- the step of a range over the names -/
theorem next_names {ops : Array Oper} {rest : List Oper} {o : Oper} {a : Act} {Q : Exit → Act → World → Prop} (w : World) (hg : o.guard = none) (it : Operand) (hop : o.op = Op.next it false) (r bm c0 : Nat) (seen : Array Nat) (l : List (Int × B))
    (hit : a.eval it = .pointer (some ⟨r, 0, none⟩)) (hr : w.heap[r]? = some (.mapIter (some bm) l.length seen c0)) (hb : w.heap[bm]? = some (.map (mapEa l) l.length)) (hsc : l.length ≤ c0)
    (hDone : (leftOf (mapEa l) seen).size = 0 → wpList Tryz.prog ops Q rest (a.put o.dst (.tuple #[.bool false])) w)
    (hMore : ∀ (p : Int × B) (j : Nat) (w3 : World), l[j]? = some p → (Instr.entry (.pointer (some ⟨r, 0, none⟩))).run Tryz.prog w3 = .ok (.tuple #[.int .i64 p.1, .agg #[.string (bs p.2)]]) w3 →
      w3.heap[r]? = some (.mapIter (some bm) l.length (seen.push j) l.length) → w3.heap[bm]? = some (.map (mapEa l) l.length) → Turned (· = r) w w3 → (leftOf (mapEa l) (seen.push j)).size < (leftOf (mapEa l) seen).size →
      wpList Tryz.prog ops Q rest (a.put o.dst (.tuple #[.bool true, .int .i64 p.1, .agg #[.string (bs p.2)]])) w3) : wpList Tryz.prog ops Q (o :: rest) a w := by
  refine wpList_next_at w hg it hop r bm l.length c0 seen (mapEa l) l.length hit hr hb (born_lt l) hsc hDone fun e he w2 hw => ?_
  have hmem : e ∈ (mapEa l).toList := by unfold leftOf at he; simp at he ⊢; exact he.1
  obtain ⟨p, hp1, -, hp3, hp4⟩ := mapEs_at 0 l e (by simpa [mapEa] using hmem)
  rw [Nat.sub_zero] at hp1
  have hw2r : w2.heap[r]? = some (.mapIter (some bm) l.length seen c0) := by rcases hw with rfl | rfl <;> exact hr
  have hw2b : w2.heap[bm]? = some (.map (mapEa l) l.length) := by rcases hw with rfl | rfl <;> exact hb
  have hbr : bm ≠ r := fun q => by rw [q, hw2r] at hw2b; simp at hw2b
  have T2 : Turned (· = r) w w2 := by
    rcases hw with rfl | rfl
    · exact Turned.refl _ _
    · exact Turned.drew _ _
  have h3 := setBlock_same (.mapIter (some bm) l.length (seen.push e.born) l.length) hw2r
  have h4 := (setBlock_heap w2 r (.mapIter (some bm) l.length (seen.push e.born) l.length) bm hbr).trans hw2b
  have hen := run_entry_at (P := Tryz.prog) (setBlock w2 r (.mapIter (some bm) l.length (seen.push e.born) l.length)) r bm l.length seen (mapEa l) l.length e h3 h4 hmem (by have := (born_nodup 0 l).1; simpa [mapEa] using this)
  rw [hp3, hp4] at hen ⊢
  exact hMore p e.born _ hp1 hen h3 h4 (T2.trans (Turned.setBlock _ _ _) fun _ _ q => q) (left_push l seen e he)

/-- what find's loop keeps -/
def FindRel (l : List (Int × B)) (name : B) (w0 : World) (bm r : Nat) (g : Nat) (kd : Value) (wr : World) : Prop :=
  ∃ (seen : Array Nat) (k : Int) (c0 : Nat), (leftOf (mapEa l) seen).size = g ∧ kd = .int .i64 k ∧ Found l name seen k ∧ wr.heap[r]? = some (.mapIter (some bm) l.length seen c0) ∧ l.length ≤ c0 ∧
    wr.heap[bm]? = some (.map (mapEa l) l.length) ∧ Turned (· = r) w0 wr ∧ r = w0.heap.size

set_option maxRecDepth 100000 in
theorem find_any (l : List (Int × B)) (hnd : (l.map (·.2)).Nodup) (name : B) (bm : Nat) (w : World) (hb : w.heap[bm]? = some (.map (mapEa l) l.length)) :
    Calls Tryz.prog 50 #[.map (some bm), .string (bs name)] w fun e w' => e = .returned (.int .i64 (kindIn l name)) ∧ Turned (fun _ => False) w w' := by
  have hrg : (Instr.range 97 (.map (some bm))).run Tryz.prog w = .ok (.pointer (some ⟨w.heap.size, 0, none⟩)) (w.alloc (.mapIter (some bm) l.length #[] l.length)) := run_range_map w 97 3 107 bm _ _ Tryz.underlying97 hb
  have B0 : Hid (FindRel l name w bm w.heap.size (leftOf (mapEa l) #[]).size (.int .i64 0) (w.alloc (.mapIter (some bm) l.length #[] l.length))) :=
    ⟨#[], 0, l.length, rfl, rfl, .inl ⟨rfl, fun _ _ _ h => absurd h (Array.not_mem_empty _)⟩, heap_alloc_new _ _, Nat.le_refl _, Go.Mine.heap_alloc_old hb, (Turned.alloc _ _ _), rfl⟩
  generalize hB : w.heap.size = r at hrg B0
  generalize w.alloc (.mapIter (some bm) l.length #[] l.length) = w1 at hrg B0
  have HN : Hid ((l.map (·.2)).Nodup) := hnd
  have HS : Hid (w.heap.size = r) := hB
  clear hb hnd hB
  go_enter Tryz.func50, Tryz.ntmps50
  go_wp2
  go_loopg [5] (leftOf (mapEa l) #[]).size (fun g kd wr => FindRel l name w bm r g kd wr)
  case atStart => exact B0.out
  case round =>
    obtain ⟨seen, k, c0, hg, rfl, hf, hr, hc, hb, ht, hrs⟩ := hrel
    have HF : Hid (Found l name seen k) := hf
    have HG : Hid ((leftOf (mapEa l) seen).size = gk) := hg
    have HT : Hid (Turned (· = r) w wr) := ht
    have HR : Hid (wr.heap[r]? = some (.mapIter (some bm) l.length seen c0)) := hr
    have HB : Hid (wr.heap[bm]? = some (.map (mapEa l) l.length)) := hb
    have HC : Hid (l.length ≤ c0) := hc
    have HRS : Hid (r = w.heap.size) := hrs
    go_wp2_with (at_next; refine next_names wr rfl _ rfl r bm c0 seen l rfl hr hb hc ?_ ?_
                 (intro h0; have H0 : Hid ((leftOf (mapEa l) seen).size = 0) := h0; clear h0 hg hf hr hc hb ht hrs)
                 rotate_left
                 intro p j w3 hp hen hr3 hb3 ht3 hlt
                 have HL : Hid ((leftOf (mapEa l) (seen.push j)).size < gk) := (by rw [← hg]; exact hlt : (leftOf (mapEa l) (seen.push j)).size < gk)
                 have R3 : Hid (w3.heap[r]? = some (.mapIter (some bm) l.length (seen.push j) l.length)) := hr3
                 have B3 : Hid (w3.heap[bm]? = some (.map (mapEa l) l.length)) := hb3
                 have T3 : Hid (Turned (· = r) w w3) := ht.trans ht3 fun _ _ q => q
                 have HP : Hid (l[j]? = some p) := hp
                 clear hp hr3 hb3 ht3 hlt hg hf hr hc hb ht hrs
                 have FD : ∃ k2, (p.2 = name ∧ k2 = p.1 ∨ p.2 ≠ name ∧ k2 = k) ∧ Found l name (seen.push j) k2 := by
                   by_cases hn : p.2 = name
                   · exact ⟨p.1, .inl ⟨hn, rfl⟩, Found.step_eq HP.out hn⟩
                   · exact ⟨k, .inr ⟨hn, rfl⟩, Found.step_ne HF.out HP.out hn⟩
                 obtain ⟨k2, hk2, hfd⟩ := FD
                 have FN : Hid (Found l name (seen.push j) k2) := hfd
                 clear hfd
                 rcases hk2 with ⟨hn, hk⟩ | ⟨hn, hk⟩
                 (rw [hn] at hen; rw [← hk] at hen ⊢; rw [hn]; clear hn hk; generalize bs name = x at *)
                 rotate_left
                 (subst hk; have hne := ba_ne2 _ _ (fun q => hn (bs_inj q)); clear hn; generalize bs name = x at *; generalize bs p.2 = y at *; generalize p.1 = k3 at *))
    all_goals first
      | (go_ret
         exact ⟨by rw [(HF.out).done H0.out HN.out]; rfl, HT.out.mono fun i hi q => by have := HRS.out; omega⟩)
      | (go_roundg ((leftOf (mapEa l) (seen.push j)).size)
         case measure => exact HL.out
         case rel => exact ⟨seen.push j, k2, l.length, rfl, rfl, FN.out, Go.Mine.heap_alloc_old R3.out, Nat.le_refl _, Go.Mine.heap_alloc_old B3.out, (T3.out.new _), HRS.out⟩)
end Go.Proofs.YteblabpplaaddaaGreatDoor
