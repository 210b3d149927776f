/- What a command tells. -/
import Derived.Test.YteblabpplaaddaaGreatDoorMq
import Derived.Deep.LoopGhost
set_option linter.unusedVariables false
set_option linter.unusedSimpArgs false
namespace Go.Proofs.YteblabpplaaddaaGreatDoor
open Go.RowKit Go.Mine Go.Mine.Sc

theorem scells_one (l : List B) : ∀ u ∈ scells l, u.oneCell' = true := by
  intro u hu
  obtain ⟨x, -, rfl⟩ := List.mem_map.1 hu
  rfl
theorem Own.opens {w1 wr : World} {e : TypeId} {size n : Nat} {v : Value} {xs : List Value} (h : Own w1 e size v xs n wr) : ∃ a cap, v = .slice a n cap ∧ n ≤ cap ∧ cap ≤ maxLen := by
  obtain ⟨⟨S, h1, -⟩, -⟩ := h
  exact h1.value
/-- a row that the call has just laid, whole -/
theorem row_sl (w : World) (us : List Value) (e : TypeId) (hl : us.length ≤ maxLen) : Sl (w.alloc (.cells us.toArray e)) (· = w.heap.size) e 1 (.slice (some ⟨w.heap.size, 0, none⟩) us.length us.length) us us.length :=
  ⟨by simp, .inr ⟨w.heap.size, 0, us.length, us.toArray, rfl, rfl, heap_alloc_new w _, Nat.le_refl _, hl, by simp, by simp⟩⟩

/-- a question as it lies -/
def QuesV (w : World) (S : Nat → Prop) (q : Ques) (cs : Array Value) : Prop :=
  ∃ a9 k9, cs = #[.int .i64 q.kind, .int .i64 q.a, .int .i64 q.b, .int .i64 q.limit, .slice a9 q.ids.length k9, .string (bs q.path)] ∧ Rd w S 1 (.slice a9 q.ids.length k9) (icells q.ids) q.ids.length
structure QuesOk (q : Ques) : Prop where
  ids : ∀ n ∈ q.ids, I64 n
  a : I64 q.a
  b : I64 q.b
  limit : I64 q.limit
  few : q.ids.length ≤ 2000000
  short : q.path.length ≤ 2000000

theorem questions_at (w : World) (n : Nat) (hn : w.heap.size = n) : Calls Tryz.prog 58 #[] w fun e w' => e = .returned (.map (some n)) ∧ (∀ k, (Instr.lookup 97 (.map (some n)) (.int .i64 k) false).run Tryz.prog w' = .ok (.agg #[.string (bs (nameIn qnames k))]) w') ∧ Turned (fun _ => False) w w' := by
  subst hn; exact questions_look w
theorem names_at (w : World) (n : Nat) (hn : w.heap.size = n) : Calls Tryz.prog 51 #[] w fun e w' => e = .returned (.map (some n)) ∧ (∀ k, (Instr.lookup 97 (.map (some n)) (.int .i64 k) false).run Tryz.prog w' = .ok (.agg #[.string (bs (nameIn cnames k))]) w') ∧ Turned (fun _ => False) w w' := by
  subst hn; exact names_look w
theorem fld107 (y : ByteArray) (W : World) : (Instr.field 107 (.agg #[.string y]) 0).run Tryz.prog W = .ok (.string y) W := by
  simp [Instr.field, run_underlying Tryz.underlying107, go_sem, Result.andThen, asAgg]
theorem box_at {w w2 : World} {o : Obj} (ht : Turned (fun _ => False) (w.alloc o).drew w2) : w2.heap[w.heap.size]? = some o := (ht.block _ (by simp) id).trans (heap_alloc_new w o)

theorem own_src {W1 w5 : World} {a5 : Option Addr} {c5 n : Nat} {l : List B} (h : Own W1 9 1 (.slice a5 n c5) (scells l) n w5) : Src Tryz.prog 1 24 (.slice a5 n c5) n (scells l) w5 := by
  obtain ⟨⟨S, h1, -⟩, -⟩ := h
  exact h1.src Tryz.underlying24 (scells_one l)
theorem name_sl {w2 w5 : World} {nm : ByteArray} (ht : Turned (fun _ => False) (w2.alloc (.cells #[.string nm] 9)) w5) : Sl w5 (· = w2.heap.size) 9 1 (.slice (some ⟨w2.heap.size, 0, none⟩) 1 1) [.string nm] 1 :=
  (row_sl w2 [.string nm] 9 (by simp [maxLen])).turned ht fun _ _ q => q
theorem box_keep {w2 w5 : World} {b : Nat} {o o' : Obj} (hb : w2.heap[b]? = some o) (t : Turned (fun _ => False) (w2.alloc o') w5) : w5.heap[b]? = some o :=
  (t.block b (by have := lt_of_block hb; simp; omega) id).trans (Go.Mine.heap_alloc_old hb)
theorem strs_fin {w w2 w5 w9 : World} {v : Value} {nm : ByteArray} {x : B} {l : List B} {k : Nat} (hn : nm = bs x) (T2 : Turned (fun _ => False) w w2) (t5 : Turned (fun _ => False) (w2.alloc (.cells #[.string nm] 9)) w5) (hk : k = l.length)
    (q1 : Sl w9 (More (· = w2.heap.size) w5) 9 1 v ([.string nm] ++ scells l) (1 + k)) (t1 : Turned (· = w2.heap.size) w5 w9) : StrsPost w (x :: l) (.returned v) w9 := by
  subst hn hk
  have := own_app (w1 := w) (wr := w2) (fun b hb => by have := T2.size; omega) T2 ((Turned.alloc (fun _ => False) w2 _).trans t5 fun _ _ q => q) q1 t1
  exact ⟨v, rfl, by rw [List.length_cons, Nat.add_comm]; exact this⟩
theorem nums_rd (W : World) (l : List Int) (n k : Nat) (hn : W.heap.size = n) (hk : l.length = k) (hl : k ≤ maxLen) : Rd (W.alloc (.cells (icells l).toArray 3)) (· = n) 1 (.slice (some ⟨n, 0, none⟩) k k) (icells l) k := by
  subst hn hk
  have := (row_sl W (icells l) 3 (by rw [icells_length]; exact hl)).rd
  rwa [icells_length] at this

set_option maxRecDepth 100000 in
set_option maxHeartbeats 4000000 in
theorem asked_nn (w0 w : World) (hL : Lw w0 w) (R : Nat → Prop) (q : Ques) (cs : Array Value) (h : QuesV w R q cs) (ok : QuesOk q) (hk : q.kind = 1 ∨ q.kind = 3 ∨ q.kind = 4) :
    Calls Tryz.prog 67 #[.agg cs] w (StrsPost w (nameIn qnames q.kind :: [Lib.itoa q.a, Lib.itoa q.b])) := by
  obtain ⟨a9, k9, rfl, h9⟩ := h
  obtain ⟨kind, a, b, limit, ids, path⟩ := q
  simp only [] at hk h9 ⊢
  have HL : Hid (Lw w0 w) := hL
  have OK : Hid (True) := trivial
  have H9 : Hid (Rd w R 1 (.slice a9 ids.length k9) (icells ids) ids.length) := h9
  obtain ⟨nm, hnm⟩ : ∃ nm, nm = bs (nameIn qnames kind) := ⟨_, rfl⟩
  have HN : Hid (nm = bs (nameIn qnames kind)) := hnm
  have HK : Hid (∀ W n, (∀ k, (Instr.lookup 97 (.map (some n)) (.int .i64 k) false).run Tryz.prog W = .ok (.agg #[.string (bs (nameIn qnames k))]) W) → (Instr.lookup 97 (.map (some n)) (.int .i64 kind) false).run Tryz.prog W = .ok (.agg #[.string nm]) W) := hidS fun W n q => by rw [hnm]; exact q kind
  have D65 : Hid (∀ W n, W.heap.size = n → Turned (fun _ => False) w W → Calls Tryz.prog 65 #[.slice (some ⟨n, 0, none⟩) 2 2] (W.alloc (.cells #[.int .i64 a, .int .i64 b] 3)) (StrsPost (W.alloc (.cells #[.int .i64 a, .int .i64 b] 3)) [Lib.itoa a, Lib.itoa b])) := fun W n hn t => digits_any w0 _ (hL.turned0 (t.trans (Turned.alloc (fun _ => False) W _) fun _ _ q => q)) _ _ _ [a, b] (nums_rd W [a, b] n 2 hn rfl (by decide)) (by intro x hx; simp at hx; rcases hx with rfl | rfl <;> first | exact ok.a | exact ok.b | exact ok.limit) (by simp)
  obtain ⟨x5, hx5⟩ : ∃ x5, x5 = bs path := ⟨_, rfl⟩
  have HX : Hid (x5 = bs path) := hx5
  rw [← hx5]
  obtain ⟨n9, hn9⟩ : ∃ n9, n9 = ids.length := ⟨_, rfl⟩
  have HN9 : Hid (n9 = ids.length) := hn9
  rw [← hn9]
  clear hL ok h9 hnm hx5 hn9
  go_enter Tryz.func67, Tryz.ntmps67
  go_wp2
  go_region_with (first
    | (go_at_call 58; (with_reducible refine (questions_at _ (w.heap.size + 1) (by simp)).mono ?_); rintro e w2 ⟨rfl, lk, ht⟩
       have hb2 : w2.heap[w.heap.size]? = some (.cells #[.int .i64 kind, .int .i64 a, .int .i64 b, .int .i64 limit, .slice a9 n9 k9, .string x5] 37 (0, 0)) := box_at ht
       have c0 := cell_of hb2 0 _ rfl; have c1 := cell_of hb2 1 _ rfl; have c2 := cell_of hb2 2 _ rfl; have c3 := cell_of hb2 3 _ rfl; have c4 := cell_of hb2 4 _ rfl; have c5 := cell_of hb2 5 _ rfl
       simp only [List.getElem_toArray, List.getElem_cons_zero, List.getElem_cons_succ] at c0 c1 c2 c3 c4 c5
       have l2 := lt_of_block hb2
       have T2 : Hid (Turned (fun _ => False) w w2 ∧ w2.heap[w.heap.size]? = some (.cells #[.int .i64 kind, .int .i64 a, .int .i64 b, .int .i64 limit, .slice a9 n9 k9, .string x5] 37 (0, 0))) := ⟨((Turned.refl _ w).new _).draw.trans ht fun _ _ q => q, hb2⟩
       have lkk := HK.out w2 _ lk
       have fl := fld107 nm w2
       clear lk ht hb2))
  all_goals clear lkk fl
  all_goals (rcases hk with rfl | rfl | rfl)
  all_goals
    go_wp2_with (first
      | (go_at_call 65; (with_reducible refine (D65.out (w2.alloc (.cells #[.string nm] 9)) (w2.heap.size + 1) (by simp) (T2.out.1.new _)).mono ?_); rintro e w5 ⟨v5, rfl, ho⟩
         obtain ⟨a5, k5, rfl, -, -⟩ := ho.opens
         have X5 : Hid (Src Tryz.prog 1 24 (.slice a5 2 k5) 2 (scells [Lib.itoa a, Lib.itoa b]) w5 ∧ Sl w5 (· = w2.heap.size) 9 1 (.slice (some ⟨w2.heap.size, 0, none⟩) 1 1) [.string nm] 1 ∧ Turned (fun _ => False) (w2.alloc (.cells #[.string nm] 9)) w5) := ⟨own_src ho, name_sl (((Turned.refl _ _).new _).trans ho.2 fun _ _ q => q), ((Turned.refl _ _).new _).trans ho.2 fun _ _ q => q⟩
         clear ho)
      | (at_builtin; refine wpList_append rfl _ _ 24 24 rfl X5.out.2.1 Tryz.underlying24 info9 rfl (by decide) rfl (.slice a5 2 k5) rfl X5.out.1 (by decide) (by decide) ?_
         intro x4 w9 q1 t1
         obtain ⟨a3, cap3, hv3, -, -⟩ := q1.value
         subst hv3
         have Q1 := hid_two q1 t1
         clear q1 t1))
  all_goals go_ret
  all_goals exact strs_fin HN.out T2.out.1 X5.out.2.2 rfl Q1.out.1 Q1.out.2

set_option maxRecDepth 100000 in
set_option maxHeartbeats 4000000 in
theorem asked_nnn (w0 w : World) (hL : Lw w0 w) (R : Nat → Prop) (q : Ques) (cs : Array Value) (h : QuesV w R q cs) (ok : QuesOk q) (hk : q.kind = 9 ∨ q.kind = 10) :
    Calls Tryz.prog 67 #[.agg cs] w (StrsPost w (nameIn qnames q.kind :: [Lib.itoa q.a, Lib.itoa q.b, Lib.itoa q.limit])) := by
  obtain ⟨a9, k9, rfl, h9⟩ := h
  obtain ⟨kind, a, b, limit, ids, path⟩ := q
  simp only [] at hk h9 ⊢
  have HL : Hid (Lw w0 w) := hL
  have OK : Hid (True) := trivial
  have H9 : Hid (Rd w R 1 (.slice a9 ids.length k9) (icells ids) ids.length) := h9
  obtain ⟨nm, hnm⟩ : ∃ nm, nm = bs (nameIn qnames kind) := ⟨_, rfl⟩
  have HN : Hid (nm = bs (nameIn qnames kind)) := hnm
  have HK : Hid (∀ W n, (∀ k, (Instr.lookup 97 (.map (some n)) (.int .i64 k) false).run Tryz.prog W = .ok (.agg #[.string (bs (nameIn qnames k))]) W) → (Instr.lookup 97 (.map (some n)) (.int .i64 kind) false).run Tryz.prog W = .ok (.agg #[.string nm]) W) := hidS fun W n q => by rw [hnm]; exact q kind
  have D65 : Hid (∀ W n, W.heap.size = n → Turned (fun _ => False) w W → Calls Tryz.prog 65 #[.slice (some ⟨n, 0, none⟩) 3 3] (W.alloc (.cells #[.int .i64 a, .int .i64 b, .int .i64 limit] 3)) (StrsPost (W.alloc (.cells #[.int .i64 a, .int .i64 b, .int .i64 limit] 3)) [Lib.itoa a, Lib.itoa b, Lib.itoa limit])) := fun W n hn t => digits_any w0 _ (hL.turned0 (t.trans (Turned.alloc (fun _ => False) W _) fun _ _ q => q)) _ _ _ [a, b, limit] (nums_rd W [a, b, limit] n 3 hn rfl (by decide)) (by intro x hx; simp at hx; rcases hx with rfl | rfl | rfl <;> first | exact ok.a | exact ok.b | exact ok.limit) (by simp)
  obtain ⟨x5, hx5⟩ : ∃ x5, x5 = bs path := ⟨_, rfl⟩
  have HX : Hid (x5 = bs path) := hx5
  rw [← hx5]
  obtain ⟨n9, hn9⟩ : ∃ n9, n9 = ids.length := ⟨_, rfl⟩
  have HN9 : Hid (n9 = ids.length) := hn9
  rw [← hn9]
  clear hL ok h9 hnm hx5 hn9
  go_enter Tryz.func67, Tryz.ntmps67
  go_wp2
  go_region_with (first
    | (go_at_call 58; (with_reducible refine (questions_at _ (w.heap.size + 1) (by simp)).mono ?_); rintro e w2 ⟨rfl, lk, ht⟩
       have hb2 : w2.heap[w.heap.size]? = some (.cells #[.int .i64 kind, .int .i64 a, .int .i64 b, .int .i64 limit, .slice a9 n9 k9, .string x5] 37 (0, 0)) := box_at ht
       have c0 := cell_of hb2 0 _ rfl; have c1 := cell_of hb2 1 _ rfl; have c2 := cell_of hb2 2 _ rfl; have c3 := cell_of hb2 3 _ rfl; have c4 := cell_of hb2 4 _ rfl; have c5 := cell_of hb2 5 _ rfl
       simp only [List.getElem_toArray, List.getElem_cons_zero, List.getElem_cons_succ] at c0 c1 c2 c3 c4 c5
       have l2 := lt_of_block hb2
       have T2 : Hid (Turned (fun _ => False) w w2 ∧ w2.heap[w.heap.size]? = some (.cells #[.int .i64 kind, .int .i64 a, .int .i64 b, .int .i64 limit, .slice a9 n9 k9, .string x5] 37 (0, 0))) := ⟨((Turned.refl _ w).new _).draw.trans ht fun _ _ q => q, hb2⟩
       have lkk := HK.out w2 _ lk
       have fl := fld107 nm w2
       clear lk ht hb2))
  all_goals clear lkk fl
  all_goals (rcases hk with rfl | rfl)
  all_goals
    go_wp2_with (first
      | (go_at_call 65; (with_reducible refine (D65.out (w2.alloc (.cells #[.string nm] 9)) (w2.heap.size + 1) (by simp) (T2.out.1.new _)).mono ?_); rintro e w5 ⟨v5, rfl, ho⟩
         obtain ⟨a5, k5, rfl, -, -⟩ := ho.opens
         have X5 : Hid (Src Tryz.prog 1 24 (.slice a5 3 k5) 3 (scells [Lib.itoa a, Lib.itoa b, Lib.itoa limit]) w5 ∧ Sl w5 (· = w2.heap.size) 9 1 (.slice (some ⟨w2.heap.size, 0, none⟩) 1 1) [.string nm] 1 ∧ Turned (fun _ => False) (w2.alloc (.cells #[.string nm] 9)) w5) := ⟨own_src ho, name_sl (((Turned.refl _ _).new _).trans ho.2 fun _ _ q => q), ((Turned.refl _ _).new _).trans ho.2 fun _ _ q => q⟩
         clear ho)
      | (at_builtin; refine wpList_append rfl _ _ 24 24 rfl X5.out.2.1 Tryz.underlying24 info9 rfl (by decide) rfl (.slice a5 3 k5) rfl X5.out.1 (by decide) (by decide) ?_
         intro x4 w9 q1 t1
         obtain ⟨a3, cap3, hv3, -, -⟩ := q1.value
         subst hv3
         have Q1 := hid_two q1 t1
         clear q1 t1))
  all_goals go_ret
  all_goals exact strs_fin HN.out T2.out.1 X5.out.2.2 rfl Q1.out.1 Q1.out.2

set_option maxRecDepth 100000 in
set_option maxHeartbeats 4000000 in
theorem asked_s (w0 w : World) (hL : Lw w0 w) (R : Nat → Prop) (q : Ques) (cs : Array Value) (h : QuesV w R q cs) (ok : QuesOk q) (hk : q.kind = 2 ∨ q.kind = 5 ∨ q.kind = 6) :
    Calls Tryz.prog 67 #[.agg cs] w (StrsPost w (nameIn qnames q.kind :: q.ids.map Lib.itoa)) := by
  obtain ⟨a9, k9, rfl, h9⟩ := h
  obtain ⟨kind, a, b, limit, ids, path⟩ := q
  simp only [] at hk h9 ⊢
  have HL : Hid (Lw w0 w) := hL
  have OK : Hid (ids.length ≤ 2000000) := ok.few
  have H9 : Hid (Rd w R 1 (.slice a9 ids.length k9) (icells ids) ids.length) := h9
  obtain ⟨nm, hnm⟩ : ∃ nm, nm = bs (nameIn qnames kind) := ⟨_, rfl⟩
  have HN : Hid (nm = bs (nameIn qnames kind)) := hnm
  have HK : Hid (∀ W n, (∀ k, (Instr.lookup 97 (.map (some n)) (.int .i64 k) false).run Tryz.prog W = .ok (.agg #[.string (bs (nameIn qnames k))]) W) → (Instr.lookup 97 (.map (some n)) (.int .i64 kind) false).run Tryz.prog W = .ok (.agg #[.string nm]) W) := hidS fun W n q => by rw [hnm]; exact q kind
  have D65 : Hid (∀ W, Turned (fun _ => False) w W → Calls Tryz.prog 65 #[.slice a9 ids.length k9] W (StrsPost W (ids.map Lib.itoa))) := fun W t => digits_any w0 _ (hL.turned0 t) R _ _ ids (h9.turned t fun _ _ q => q) ok.ids (Nat.le_trans ok.few (by decide))
  obtain ⟨x5, hx5⟩ : ∃ x5, x5 = bs path := ⟨_, rfl⟩
  have HX : Hid (x5 = bs path) := hx5
  rw [← hx5]
  obtain ⟨n9, hn9⟩ : ∃ n9, n9 = ids.length := ⟨_, rfl⟩
  have HN9 : Hid (n9 = ids.length) := hn9
  rw [← hn9]
  clear hL ok h9 hnm hx5 hn9
  go_enter Tryz.func67, Tryz.ntmps67
  go_wp2
  go_region_with (first
    | (go_at_call 58; (with_reducible refine (questions_at _ (w.heap.size + 1) (by simp)).mono ?_); rintro e w2 ⟨rfl, lk, ht⟩
       have hb2 : w2.heap[w.heap.size]? = some (.cells #[.int .i64 kind, .int .i64 a, .int .i64 b, .int .i64 limit, .slice a9 n9 k9, .string x5] 37 (0, 0)) := box_at ht
       have c0 := cell_of hb2 0 _ rfl; have c1 := cell_of hb2 1 _ rfl; have c2 := cell_of hb2 2 _ rfl; have c3 := cell_of hb2 3 _ rfl; have c4 := cell_of hb2 4 _ rfl; have c5 := cell_of hb2 5 _ rfl
       simp only [List.getElem_toArray, List.getElem_cons_zero, List.getElem_cons_succ] at c0 c1 c2 c3 c4 c5
       have l2 := lt_of_block hb2
       have T2 : Hid (Turned (fun _ => False) w w2 ∧ w2.heap[w.heap.size]? = some (.cells #[.int .i64 kind, .int .i64 a, .int .i64 b, .int .i64 limit, .slice a9 n9 k9, .string x5] 37 (0, 0))) := ⟨((Turned.refl _ w).new _).draw.trans ht fun _ _ q => q, hb2⟩
       have lkk := HK.out w2 _ lk
       have fl := fld107 nm w2
       clear lk ht hb2))
  all_goals clear lkk fl
  all_goals (rcases hk with rfl | rfl | rfl)
  all_goals
    have D := D65.out (w2.alloc (.cells #[.string nm] 9)) (T2.out.1.new _)
    rw [← HN9.out] at D
    have M := OK.out
    rw [← HN9.out] at M
    have M1 : Hid (1 + n9 ≤ maxLen ∧ (1 + n9) * 16 ≤ 140737488355328) := hidS (by simp only [maxLen]; omega)
    clear M
    go_wp2_with (first
      | (go_at_call 65; (with_reducible refine D.mono ?_); rintro e w5 ⟨v5, rfl, ho⟩
         rw [List.length_map, ← HN9.out] at ho
         obtain ⟨a5, k5, rfl, -, -⟩ := ho.opens
         have X5 : Hid (Src Tryz.prog 1 24 (.slice a5 n9 k5) n9 (scells (ids.map Lib.itoa)) w5 ∧ Sl w5 (· = w2.heap.size) 9 1 (.slice (some ⟨w2.heap.size, 0, none⟩) 1 1) [.string nm] 1 ∧ Turned (fun _ => False) (w2.alloc (.cells #[.string nm] 9)) w5) := ⟨own_src ho, name_sl ho.2, ho.2⟩
         clear ho D)
      | (at_builtin; refine wpList_append rfl _ _ 24 24 rfl X5.out.2.1 Tryz.underlying24 info9 rfl (by decide) rfl (.slice a5 n9 k5) rfl X5.out.1 M1.out.1 M1.out.2 ?_
         intro x4 w9 q1 t1
         obtain ⟨a3, cap3, hv3, -, -⟩ := q1.value
         subst hv3
         have Q1 := hid_two q1 t1
         clear q1 t1))
  all_goals go_ret
  all_goals exact strs_fin HN.out T2.out.1 X5.out.2.2 (by rw [List.length_map]; exact HN9.out) Q1.out.1 Q1.out.2

set_option maxRecDepth 100000 in
set_option maxHeartbeats 4000000 in
theorem asked_n (w0 w : World) (hL : Lw w0 w) (R : Nat → Prop) (q : Ques) (cs : Array Value) (h : QuesV w R q cs) (ok : QuesOk q) (hk : q.kind = 11 ∨ q.kind = 12) :
    Calls Tryz.prog 67 #[.agg cs] w (StrsPost w (nameIn qnames q.kind :: [Lib.itoa q.a])) := by
  obtain ⟨a9, k9, rfl, h9⟩ := h
  obtain ⟨kind, a, b, limit, ids, path⟩ := q
  simp only [] at hk h9 ⊢
  have HL : Hid (Lw w0 w) := hL
  have OK : Hid (True) := trivial
  have H9 : Hid (Rd w R 1 (.slice a9 ids.length k9) (icells ids) ids.length) := h9
  obtain ⟨nm, hnm⟩ : ∃ nm, nm = bs (nameIn qnames kind) := ⟨_, rfl⟩
  have HN : Hid (nm = bs (nameIn qnames kind)) := hnm
  have HK : Hid (∀ W n, (∀ k, (Instr.lookup 97 (.map (some n)) (.int .i64 k) false).run Tryz.prog W = .ok (.agg #[.string (bs (nameIn qnames k))]) W) → (Instr.lookup 97 (.map (some n)) (.int .i64 kind) false).run Tryz.prog W = .ok (.agg #[.string nm]) W) := hidS fun W n q => by rw [hnm]; exact q kind
  have D66 : Hid (∀ W, Turned (fun _ => False) w W → Calls Tryz.prog 66 #[.int .i64 a] W fun e w' => e = .returned (.string (bs (Lib.itoa a))) ∧ Turned (fun _ => False) W w') := fun W t => itoa_any a ok.a w0 W (hL.turned0 t)
  obtain ⟨x5, hx5⟩ : ∃ x5, x5 = bs path := ⟨_, rfl⟩
  have HX : Hid (x5 = bs path) := hx5
  rw [← hx5]
  obtain ⟨n9, hn9⟩ : ∃ n9, n9 = ids.length := ⟨_, rfl⟩
  have HN9 : Hid (n9 = ids.length) := hn9
  rw [← hn9]
  clear hL ok h9 hnm hx5 hn9
  go_enter Tryz.func67, Tryz.ntmps67
  go_wp2
  go_region_with (first
    | (go_at_call 58; (with_reducible refine (questions_at _ (w.heap.size + 1) (by simp)).mono ?_); rintro e w2 ⟨rfl, lk, ht⟩
       have hb2 : w2.heap[w.heap.size]? = some (.cells #[.int .i64 kind, .int .i64 a, .int .i64 b, .int .i64 limit, .slice a9 n9 k9, .string x5] 37 (0, 0)) := box_at ht
       have c0 := cell_of hb2 0 _ rfl; have c1 := cell_of hb2 1 _ rfl; have c2 := cell_of hb2 2 _ rfl; have c3 := cell_of hb2 3 _ rfl; have c4 := cell_of hb2 4 _ rfl; have c5 := cell_of hb2 5 _ rfl
       simp only [List.getElem_toArray, List.getElem_cons_zero, List.getElem_cons_succ] at c0 c1 c2 c3 c4 c5
       have l2 := lt_of_block hb2
       have T2 : Hid (Turned (fun _ => False) w w2 ∧ w2.heap[w.heap.size]? = some (.cells #[.int .i64 kind, .int .i64 a, .int .i64 b, .int .i64 limit, .slice a9 n9 k9, .string x5] 37 (0, 0))) := ⟨((Turned.refl _ w).new _).draw.trans ht fun _ _ q => q, hb2⟩
       have lkk := HK.out w2 _ lk
       have fl := fld107 nm w2
       clear lk ht hb2))
  all_goals clear lkk fl
  all_goals (rcases hk with rfl | rfl)
  all_goals
    have D := D66.out (w2.alloc (.cells #[.string nm] 9)) (T2.out.1.new _)
    obtain ⟨y, hy⟩ : ∃ y, y = bs (Lib.itoa a) := ⟨_, rfl⟩
    have HY : Hid (y = bs (Lib.itoa a)) := hy
    rw [← hy] at D
    clear hy
    go_wp2_with (first
      | (go_at_call 66; (with_reducible refine D.mono ?_); rintro e w5 ⟨rfl, ht5⟩
         have es : scells [Lib.itoa a] = [.string y] := by rw [HY.out]; rfl
         have X5 : Hid (Src Tryz.prog 1 24 (.slice (some ⟨w5.heap.size, 0, none⟩) 1 1) 1 (scells [Lib.itoa a]) (w5.alloc (.cells #[.string y] 9)) ∧ Sl (w5.alloc (.cells #[.string y] 9)) (· = w2.heap.size) 9 1 (.slice (some ⟨w2.heap.size, 0, none⟩) 1 1) [.string nm] 1 ∧ Turned (fun _ => False) (w2.alloc (.cells #[.string nm] 9)) (w5.alloc (.cells #[.string y] 9))) := ⟨by rw [es]; exact src_one Tryz.underlying24 (.string y) rfl w5, name_sl (ht5.new _), ht5.new _⟩
         clear ht5 D es)
      | (at_builtin; refine wpList_append rfl _ _ 24 24 rfl X5.out.2.1 Tryz.underlying24 info9 rfl (by decide) rfl (.slice (some ⟨w5.heap.size, 0, none⟩) 1 1) rfl X5.out.1 (by decide) (by decide) ?_
         intro x4 w9 q1 t1
         obtain ⟨a3, cap3, hv3, -, -⟩ := q1.value
         subst hv3
         have Q1 := hid_two q1 t1
         clear q1 t1))
  all_goals go_ret
  all_goals exact strs_fin HN.out T2.out.1 X5.out.2.2 rfl Q1.out.1 Q1.out.2

set_option maxRecDepth 100000 in
set_option maxHeartbeats 4000000 in
theorem asked_nt (w0 w : World) (hL : Lw w0 w) (R : Nat → Prop) (q : Ques) (cs : Array Value) (h : QuesV w R q cs) (ok : QuesOk q) (hk : q.kind = 7 ∨ q.kind = 8) :
    Calls Tryz.prog 67 #[.agg cs] w (StrsPost w (nameIn qnames q.kind :: [Lib.itoa q.a, quote q.path])) := by
  obtain ⟨a9, k9, rfl, h9⟩ := h
  obtain ⟨kind, a, b, limit, ids, path⟩ := q
  simp only [] at hk h9 ⊢
  have HL : Hid (Lw w0 w) := hL
  have OK : Hid (True) := trivial
  have H9 : Hid (Rd w R 1 (.slice a9 ids.length k9) (icells ids) ids.length) := h9
  obtain ⟨nm, hnm⟩ : ∃ nm, nm = bs (nameIn qnames kind) := ⟨_, rfl⟩
  have HN : Hid (nm = bs (nameIn qnames kind)) := hnm
  have HK : Hid (∀ W n, (∀ k, (Instr.lookup 97 (.map (some n)) (.int .i64 k) false).run Tryz.prog W = .ok (.agg #[.string (bs (nameIn qnames k))]) W) → (Instr.lookup 97 (.map (some n)) (.int .i64 kind) false).run Tryz.prog W = .ok (.agg #[.string nm]) W) := hidS fun W n q => by rw [hnm]; exact q kind
  have D66 : Hid (∀ W, Turned (fun _ => False) w W → Calls Tryz.prog 66 #[.int .i64 a] W fun e w' => e = .returned (.string (bs (Lib.itoa a))) ∧ Turned (fun _ => False) W w') := fun W t => itoa_any a ok.a w0 W (hL.turned0 t)
  have D17 : Hid (∀ W, Calls Tryz.prog 17 #[.string (bs path)] W fun e w' => e = .returned (.string (bs (quote path))) ∧ Turned (fun _ => False) W w') := fun W => quote_any path W (Nat.le_trans ok.short (by decide))
  obtain ⟨x5, hx5⟩ : ∃ x5, x5 = bs path := ⟨_, rfl⟩
  have HX : Hid (x5 = bs path) := hx5
  rw [← hx5]
  obtain ⟨n9, hn9⟩ : ∃ n9, n9 = ids.length := ⟨_, rfl⟩
  have HN9 : Hid (n9 = ids.length) := hn9
  rw [← hn9]
  clear hL ok h9 hnm hx5 hn9
  go_enter Tryz.func67, Tryz.ntmps67
  go_wp2
  go_region_with (first
    | (go_at_call 58; (with_reducible refine (questions_at _ (w.heap.size + 1) (by simp)).mono ?_); rintro e w2 ⟨rfl, lk, ht⟩
       have hb2 : w2.heap[w.heap.size]? = some (.cells #[.int .i64 kind, .int .i64 a, .int .i64 b, .int .i64 limit, .slice a9 n9 k9, .string x5] 37 (0, 0)) := box_at ht
       have c0 := cell_of hb2 0 _ rfl; have c1 := cell_of hb2 1 _ rfl; have c2 := cell_of hb2 2 _ rfl; have c3 := cell_of hb2 3 _ rfl; have c4 := cell_of hb2 4 _ rfl; have c5 := cell_of hb2 5 _ rfl
       simp only [List.getElem_toArray, List.getElem_cons_zero, List.getElem_cons_succ] at c0 c1 c2 c3 c4 c5
       have l2 := lt_of_block hb2
       have T2 : Hid (Turned (fun _ => False) w w2 ∧ w2.heap[w.heap.size]? = some (.cells #[.int .i64 kind, .int .i64 a, .int .i64 b, .int .i64 limit, .slice a9 n9 k9, .string x5] 37 (0, 0))) := ⟨((Turned.refl _ w).new _).draw.trans ht fun _ _ q => q, hb2⟩
       have lkk := HK.out w2 _ lk
       have fl := fld107 nm w2
       clear lk ht hb2))
  all_goals clear lkk fl
  all_goals (rcases hk with rfl | rfl)
  all_goals
    have D := D66.out (w2.alloc (.cells #[.string nm] 9)).drew (T2.out.1.new _).draw
    obtain ⟨y, hy⟩ : ∃ y, y = bs (Lib.itoa a) := ⟨_, rfl⟩
    have HY : Hid (y = bs (Lib.itoa a)) := hy
    rw [← hy] at D
    obtain ⟨z, hz⟩ : ∃ z, z = bs (quote path) := ⟨_, rfl⟩
    have HZ : Hid (z = bs (quote path)) := hz
    have D7 : Hid (∀ W, Calls Tryz.prog 17 #[.string x5] W fun e w' => e = .returned (.string z) ∧ Turned (fun _ => False) W w') := hidS fun W => by rw [HX.out, hz]; exact D17.out W
    clear hy hz D17
    go_wp2
    go_region_law (first
      | (go_simp; go_at_call 66; (with_reducible refine D.mono ?_); rintro e w5 ⟨rfl, ht5⟩
         have X5 : Hid (Turned (fun _ => False) (w2.alloc (.cells #[.string nm] 9)) w5) := (Turned.drew _ _).trans ht5 fun _ _ q => q
         have hb5 := box_keep T2.out.2 X5.out
         have d5 := cell_of hb5 5 _ rfl
         simp only [List.getElem_toArray, List.getElem_cons_zero, List.getElem_cons_succ] at d5
         clear ht5 D hb5)
      | (go_simp; go_at_call 17; (with_reducible refine (D7.out _).mono ?_); rintro e w6 ⟨rfl, ht6⟩
         have es : scells [Lib.itoa a, quote path] = [.string y, .string z] := by rw [HY.out, HZ.out]; rfl
         have X6 : Hid (Src Tryz.prog 1 24 (.slice (some ⟨w6.heap.size, 0, none⟩) 2 2) 2 (scells [Lib.itoa a, quote path]) (w6.alloc (.cells #[.string y, .string z] 9)) ∧ Sl (w6.alloc (.cells #[.string y, .string z] 9)) (· = w2.heap.size) 9 1 (.slice (some ⟨w2.heap.size, 0, none⟩) 1 1) [.string nm] 1 ∧ Turned (fun _ => False) (w2.alloc (.cells #[.string nm] 9)) (w6.alloc (.cells #[.string y, .string z] 9))) := ⟨by rw [es]; exact src_row Tryz.underlying24 [.string y, .string z] (by simp [Value.oneCell']) w6, name_sl ((X5.out.trans ht6 fun _ _ q => q).new _), (X5.out.trans ht6 fun _ _ q => q).new _⟩
         clear ht6 es)
      | ((refine step_append (by rfl) _ _ 24 24 (by rfl) X6.out.2.1 Tryz.underlying24 info9 rfl (by decide) (by rfl) (.slice (some ⟨w6.heap.size, 0, none⟩) 2 2) (by rfl) X6.out.1 (by decide) (by decide) ?_
          intro x4 w9 q1 t1
          obtain ⟨a3, cap3, hv3, -, -⟩ := q1.value
          subst hv3
          have Q1 := hid_two q1 t1
          clear q1 t1)))
    all_goals go_wp2
  all_goals go_ret
  all_goals exact strs_fin HN.out T2.out.1 X6.out.2.2 rfl Q1.out.1 Q1.out.2

end Go.Proofs.YteblabpplaaddaaGreatDoor

set_option linter.unusedVariables false
set_option linter.unusedSimpArgs false
namespace Go.Proofs.YteblabpplaaddaaGreatDoor
open Go.RowKit Go.Mine Go.Mine.Sc

/-- what a command holds is not too much to be told -/
structure CmdFew (c : Cmd) : Prop where
  nums : c.nums.length ≤ 1048576
  text : c.text.length ≤ 1048576
  more : c.more.length ≤ 1048576
  tree : c.tree.length ≤ 1048576
  path : ∀ e ∈ c.tree, e.1.length ≤ 1048576
  ids : c.ask.ids.length ≤ 1048576
  ask : c.ask.path.length ≤ 1048576
theorem CmdFew.ques {c : Cmd} (h : CmdFew c) (ok : CmdOk c) : QuesOk c.ask := ⟨ok.ids, ok.a, ok.b, ok.limit, Nat.le_trans h.ids (by decide), Nat.le_trans h.ask (by decide)⟩

set_option maxRecDepth 100000 in
set_option maxHeartbeats 8000000 in
theorem told_n (w0 w : World) (hL : Lw w0 w) (R : Nat → Prop) (c : Cmd) (cs : Array Value) (h : CmdR w R c cs) (ok : CmdOk c) (few : CmdFew c) (hk : c.kind = 1 ∨ c.kind = 3 ∨ c.kind = 7 ∨ c.kind = 8) :
    Calls Tryz.prog 39 #[.agg cs] w (StrsPost w (nameIn cnames c.kind :: c.nums.map Lib.itoa)) := by
  obtain ⟨a1, k1, a4, k4, a9, k9, rfl, h1, h4, h9⟩ := h
  obtain ⟨kind, nums, text, more, tree, ⟨qk, qa, qb, ql, ids, path⟩⟩ := c
  simp only [] at hk h1 h4 h9 ⊢
  have HL : Hid (Lw w0 w) := hL
  obtain ⟨nm, hnm⟩ : ∃ nm, nm = bs (nameIn cnames kind) := ⟨_, rfl⟩
  have HN : Hid (nm = bs (nameIn cnames kind)) := hnm
  have HK : Hid (∀ W n, (∀ k, (Instr.lookup 97 (.map (some n)) (.int .i64 k) false).run Tryz.prog W = .ok (.agg #[.string (bs (nameIn cnames k))]) W) → (Instr.lookup 97 (.map (some n)) (.int .i64 kind) false).run Tryz.prog W = .ok (.agg #[.string nm]) W) := hidS fun W n q => by rw [hnm]; exact q kind
  have D65 : Hid (∀ W, Turned (fun _ => False) w W → Calls Tryz.prog 65 #[.slice a1 nums.length k1] W (StrsPost W (nums.map Lib.itoa))) := fun W t => digits_any w0 _ (hL.turned0 t) R _ _ nums (h1.turned t fun _ _ q => q) ok.nums (Nat.le_trans few.nums (by decide))
  have M0 : Hid (nums.length ≤ 1048576) := few.nums
  obtain ⟨x2, hx2⟩ : ∃ x2, x2 = bs text := ⟨_, rfl⟩
  have HX2 : Hid (x2 = bs text) := hx2
  rw [← hx2]
  obtain ⟨x3, hx3⟩ : ∃ x3, x3 = bs more := ⟨_, rfl⟩
  have HX3 : Hid (x3 = bs more) := hx3
  rw [← hx3]
  obtain ⟨x10, hx10⟩ : ∃ x10, x10 = bs path := ⟨_, rfl⟩
  have HX10 : Hid (x10 = bs path) := hx10
  rw [← hx10]
  obtain ⟨n1, hn1⟩ : ∃ n1, n1 = nums.length := ⟨_, rfl⟩
  have HN1 : Hid (n1 = nums.length) := hn1
  rw [← hn1]
  obtain ⟨n4, hn4⟩ : ∃ n4, n4 = tree.length := ⟨_, rfl⟩
  have HN4 : Hid (n4 = tree.length) := hn4
  rw [← hn4]
  obtain ⟨n9, hn9⟩ : ∃ n9, n9 = ids.length := ⟨_, rfl⟩
  have HN9 : Hid (n9 = ids.length) := hn9
  rw [← hn9]
  clear hL ok few h1 h4 h9 hnm hx2 hx3 hx10 hn1 hn4 hn9
  go_enter Tryz.func39, Tryz.ntmps39
  go_wp2
  go_region_with (first
    | (go_at_call 51; (with_reducible refine (names_at _ (w.heap.size + 1) (by simp)).mono ?_); rintro e w2 ⟨rfl, lk, ht⟩
       have hb2 : w2.heap[w.heap.size]? = some (.cells #[.int .i64 kind, .slice a1 n1 k1, .string x2, .string x3, .slice a4 n4 k4, .int .i64 qk, .int .i64 qa, .int .i64 qb, .int .i64 ql, .slice a9 n9 k9, .string x10] 39 (0, 0)) := box_at ht
       have c0 := cell_of hb2 0 _ rfl; have c1 := cell_of hb2 1 _ rfl; have c2 := cell_of hb2 2 _ rfl; have c3 := cell_of hb2 3 _ rfl; have c4 := cell_of hb2 4 _ rfl; have c5 := cell_of hb2 5 _ rfl; have c6 := cell_of hb2 6 _ rfl; have c7 := cell_of hb2 7 _ rfl; have c8 := cell_of hb2 8 _ rfl; have c9 := cell_of hb2 9 _ rfl; have c10 := cell_of hb2 10 _ rfl
       simp only [List.getElem_toArray, List.getElem_cons_zero, List.getElem_cons_succ] at c0 c1 c2 c3 c4 c5 c6 c7 c8 c9 c10
       have l2 := lt_of_block hb2
       have T2 : Hid (Turned (fun _ => False) w w2 ∧ w2.heap[w.heap.size]? = some (.cells #[.int .i64 kind, .slice a1 n1 k1, .string x2, .string x3, .slice a4 n4 k4, .int .i64 qk, .int .i64 qa, .int .i64 qb, .int .i64 ql, .slice a9 n9 k9, .string x10] 39 (0, 0))) := ⟨((Turned.refl _ w).new _).draw.trans ht fun _ _ q => q, hb2⟩
       have lkk := HK.out w2 _ lk
       have fl := fld107 nm w2
       clear lk ht hb2))
  all_goals clear lkk fl
  all_goals (rcases hk with rfl | rfl | rfl | rfl)
  all_goals
    have D := D65.out (w2.alloc (.cells #[.string nm] 9)) (T2.out.1.new _)
    rw [← HN1.out] at D
    have M := M0.out
    rw [← HN1.out] at M
    have M1 : Hid (1 + n1 ≤ maxLen ∧ (1 + n1) * 16 ≤ 140737488355328) := hidS (by simp only [maxLen]; omega)
    clear M
    go_wp2_with (first
      | (go_at_call 65; (with_reducible refine D.mono ?_); rintro e w5 ⟨v5, rfl, ho⟩
         rw [List.length_map, ← HN1.out] at ho
         obtain ⟨a5, k5, rfl, -, -⟩ := ho.opens
         have X5 : Hid (Src Tryz.prog 1 24 (.slice a5 n1 k5) n1 (scells (nums.map Lib.itoa)) w5 ∧ Sl w5 (· = w2.heap.size) 9 1 (.slice (some ⟨w2.heap.size, 0, none⟩) 1 1) [.string nm] 1 ∧ Turned (fun _ => False) (w2.alloc (.cells #[.string nm] 9)) w5) := ⟨own_src ho, name_sl ho.2, ho.2⟩
         clear ho D)
      | (at_builtin; refine wpList_append rfl _ _ 24 24 rfl X5.out.2.1 Tryz.underlying24 info9 rfl (by decide) rfl (.slice a5 n1 k5) rfl X5.out.1 M1.out.1 M1.out.2 ?_
         intro x4 w9 q1 t1
         obtain ⟨a3, cap3, hv3, -, -⟩ := q1.value
         subst hv3
         have Q1 := hid_two q1 t1
         clear q1 t1))
  all_goals go_ret
  all_goals exact strs_fin HN.out T2.out.1 X5.out.2.2 (by rw [List.length_map]; exact HN1.out) Q1.out.1 Q1.out.2

theorem words_new {w w2 : World} {l : List B} {us : List Value} {n : Nat} (hu : us = scells l) (hn : n = us.length) (T2 : Turned (fun _ => False) w w2) (hm : us.length ≤ maxLen := by first | decide | (simp [maxLen])) :
    StrsPost w l (.returned (.slice (some ⟨w2.heap.size, 0, none⟩) n n)) (w2.alloc (.cells us.toArray 9)) := by
  subst hn
  refine ⟨_, rfl, ⟨⟨(· = w2.heap.size), ?_, fun b hb => by have := T2.size; omega⟩, T2.new _⟩⟩
  have := row_sl w2 us 9 hm
  rw [hu] at this ⊢
  rwa [show (scells l).length = l.length by simp [scells]] at this ⊢

set_option maxRecDepth 100000 in
set_option maxHeartbeats 8000000 in
theorem told_0 (w0 w : World) (hL : Lw w0 w) (R : Nat → Prop) (c : Cmd) (cs : Array Value) (h : CmdR w R c cs) (ok : CmdOk c) (few : CmdFew c) (hk : c.kind = 4 ∨ c.kind = 5 ∨ c.kind = 6 ∨ c.kind = 13 ∨ c.kind = 14) :
    Calls Tryz.prog 39 #[.agg cs] w (StrsPost w ([nameIn cnames c.kind])) := by
  obtain ⟨a1, k1, a4, k4, a9, k9, rfl, h1, h4, h9⟩ := h
  obtain ⟨kind, nums, text, more, tree, ⟨qk, qa, qb, ql, ids, path⟩⟩ := c
  simp only [] at hk h1 h4 h9 ⊢
  have HL : Hid (Lw w0 w) := hL
  obtain ⟨nm, hnm⟩ : ∃ nm, nm = bs (nameIn cnames kind) := ⟨_, rfl⟩
  have HN : Hid (nm = bs (nameIn cnames kind)) := hnm
  have HK : Hid (∀ W n, (∀ k, (Instr.lookup 97 (.map (some n)) (.int .i64 k) false).run Tryz.prog W = .ok (.agg #[.string (bs (nameIn cnames k))]) W) → (Instr.lookup 97 (.map (some n)) (.int .i64 kind) false).run Tryz.prog W = .ok (.agg #[.string nm]) W) := hidS fun W n q => by rw [hnm]; exact q kind
  obtain ⟨x2, hx2⟩ : ∃ x2, x2 = bs text := ⟨_, rfl⟩
  have HX2 : Hid (x2 = bs text) := hx2
  rw [← hx2]
  obtain ⟨x3, hx3⟩ : ∃ x3, x3 = bs more := ⟨_, rfl⟩
  have HX3 : Hid (x3 = bs more) := hx3
  rw [← hx3]
  obtain ⟨x10, hx10⟩ : ∃ x10, x10 = bs path := ⟨_, rfl⟩
  have HX10 : Hid (x10 = bs path) := hx10
  rw [← hx10]
  obtain ⟨n1, hn1⟩ : ∃ n1, n1 = nums.length := ⟨_, rfl⟩
  have HN1 : Hid (n1 = nums.length) := hn1
  rw [← hn1]
  obtain ⟨n4, hn4⟩ : ∃ n4, n4 = tree.length := ⟨_, rfl⟩
  have HN4 : Hid (n4 = tree.length) := hn4
  rw [← hn4]
  obtain ⟨n9, hn9⟩ : ∃ n9, n9 = ids.length := ⟨_, rfl⟩
  have HN9 : Hid (n9 = ids.length) := hn9
  rw [← hn9]
  clear hL ok few h1 h4 h9 hnm hx2 hx3 hx10 hn1 hn4 hn9
  go_enter Tryz.func39, Tryz.ntmps39
  go_wp2
  go_region_with (first
    | (go_at_call 51; (with_reducible refine (names_at _ (w.heap.size + 1) (by simp)).mono ?_); rintro e w2 ⟨rfl, lk, ht⟩
       have hb2 : w2.heap[w.heap.size]? = some (.cells #[.int .i64 kind, .slice a1 n1 k1, .string x2, .string x3, .slice a4 n4 k4, .int .i64 qk, .int .i64 qa, .int .i64 qb, .int .i64 ql, .slice a9 n9 k9, .string x10] 39 (0, 0)) := box_at ht
       have c0 := cell_of hb2 0 _ rfl; have c1 := cell_of hb2 1 _ rfl; have c2 := cell_of hb2 2 _ rfl; have c3 := cell_of hb2 3 _ rfl; have c4 := cell_of hb2 4 _ rfl; have c5 := cell_of hb2 5 _ rfl; have c6 := cell_of hb2 6 _ rfl; have c7 := cell_of hb2 7 _ rfl; have c8 := cell_of hb2 8 _ rfl; have c9 := cell_of hb2 9 _ rfl; have c10 := cell_of hb2 10 _ rfl
       simp only [List.getElem_toArray, List.getElem_cons_zero, List.getElem_cons_succ] at c0 c1 c2 c3 c4 c5 c6 c7 c8 c9 c10
       have l2 := lt_of_block hb2
       have T2 : Hid (Turned (fun _ => False) w w2 ∧ w2.heap[w.heap.size]? = some (.cells #[.int .i64 kind, .slice a1 n1 k1, .string x2, .string x3, .slice a4 n4 k4, .int .i64 qk, .int .i64 qa, .int .i64 qb, .int .i64 ql, .slice a9 n9 k9, .string x10] 39 (0, 0))) := ⟨((Turned.refl _ w).new _).draw.trans ht fun _ _ q => q, hb2⟩
       have lkk := HK.out w2 _ lk
       have fl := fld107 nm w2
       clear lk ht hb2))
  all_goals clear lkk fl
  all_goals (rcases hk with rfl | rfl | rfl | rfl | rfl)
  all_goals go_wp2
  all_goals go_ret
  all_goals exact words_new (us := [.string nm]) (by rw [HN.out]; rfl) rfl T2.out.1

set_option maxRecDepth 100000 in
set_option maxHeartbeats 8000000 in
theorem told_10 (w0 w : World) (hL : Lw w0 w) (R : Nat → Prop) (c : Cmd) (cs : Array Value) (h : CmdR w R c cs) (ok : CmdOk c) (few : CmdFew c) (hk : c.kind = 10) :
    Calls Tryz.prog 39 #[.agg cs] w (StrsPost w ([nameIn cnames c.kind, quote c.text])) := by
  obtain ⟨a1, k1, a4, k4, a9, k9, rfl, h1, h4, h9⟩ := h
  obtain ⟨kind, nums, text, more, tree, ⟨qk, qa, qb, ql, ids, path⟩⟩ := c
  simp only [] at hk h1 h4 h9 ⊢
  subst hk
  have HL : Hid (Lw w0 w) := hL
  obtain ⟨nm, hnm⟩ : ∃ nm, nm = bs (nameIn cnames 10) := ⟨_, rfl⟩
  have HN : Hid (nm = bs (nameIn cnames 10)) := hnm
  have HK : Hid (∀ W n, (∀ k, (Instr.lookup 97 (.map (some n)) (.int .i64 k) false).run Tryz.prog W = .ok (.agg #[.string (bs (nameIn cnames k))]) W) → (Instr.lookup 97 (.map (some n)) (.int .i64 10) false).run Tryz.prog W = .ok (.agg #[.string nm]) W) := hidS fun W n q => by rw [hnm]; exact q 10
  have D17 : Hid (∀ W, Calls Tryz.prog 17 #[.string (bs text)] W fun e w' => e = .returned (.string (bs (quote text))) ∧ Turned (fun _ => False) W w') := fun W => quote_any text W (Nat.le_trans few.text (by decide))
  obtain ⟨x2, hx2⟩ : ∃ x2, x2 = bs text := ⟨_, rfl⟩
  have HX2 : Hid (x2 = bs text) := hx2
  rw [← hx2]
  obtain ⟨x3, hx3⟩ : ∃ x3, x3 = bs more := ⟨_, rfl⟩
  have HX3 : Hid (x3 = bs more) := hx3
  rw [← hx3]
  obtain ⟨x10, hx10⟩ : ∃ x10, x10 = bs path := ⟨_, rfl⟩
  have HX10 : Hid (x10 = bs path) := hx10
  rw [← hx10]
  obtain ⟨n1, hn1⟩ : ∃ n1, n1 = nums.length := ⟨_, rfl⟩
  have HN1 : Hid (n1 = nums.length) := hn1
  rw [← hn1]
  obtain ⟨n4, hn4⟩ : ∃ n4, n4 = tree.length := ⟨_, rfl⟩
  have HN4 : Hid (n4 = tree.length) := hn4
  rw [← hn4]
  obtain ⟨n9, hn9⟩ : ∃ n9, n9 = ids.length := ⟨_, rfl⟩
  have HN9 : Hid (n9 = ids.length) := hn9
  rw [← hn9]
  clear hL ok few h1 h4 h9 hnm hx2 hx3 hx10 hn1 hn4 hn9
  go_enter Tryz.func39, Tryz.ntmps39
  go_wp2
  go_region_with (first
    | (go_at_call 51; (with_reducible refine (names_at _ (w.heap.size + 1) (by simp)).mono ?_); rintro e w2 ⟨rfl, lk, ht⟩
       have hb2 : w2.heap[w.heap.size]? = some (.cells #[.int .i64 10, .slice a1 n1 k1, .string x2, .string x3, .slice a4 n4 k4, .int .i64 qk, .int .i64 qa, .int .i64 qb, .int .i64 ql, .slice a9 n9 k9, .string x10] 39 (0, 0)) := box_at ht
       have c0 := cell_of hb2 0 _ rfl; have c1 := cell_of hb2 1 _ rfl; have c2 := cell_of hb2 2 _ rfl; have c3 := cell_of hb2 3 _ rfl; have c4 := cell_of hb2 4 _ rfl; have c5 := cell_of hb2 5 _ rfl; have c6 := cell_of hb2 6 _ rfl; have c7 := cell_of hb2 7 _ rfl; have c8 := cell_of hb2 8 _ rfl; have c9 := cell_of hb2 9 _ rfl; have c10 := cell_of hb2 10 _ rfl
       simp only [List.getElem_toArray, List.getElem_cons_zero, List.getElem_cons_succ] at c0 c1 c2 c3 c4 c5 c6 c7 c8 c9 c10
       have l2 := lt_of_block hb2
       have T2 : Hid (Turned (fun _ => False) w w2 ∧ w2.heap[w.heap.size]? = some (.cells #[.int .i64 10, .slice a1 n1 k1, .string x2, .string x3, .slice a4 n4 k4, .int .i64 qk, .int .i64 qa, .int .i64 qb, .int .i64 ql, .slice a9 n9 k9, .string x10] 39 (0, 0))) := ⟨((Turned.refl _ w).new _).draw.trans ht fun _ _ q => q, hb2⟩
       have lkk := HK.out w2 _ lk
       have fl := fld107 nm w2
       clear lk ht hb2))
  all_goals clear lkk fl
  all_goals (skip)
  all_goals
    obtain ⟨z, hz⟩ : ∃ z, z = bs (quote text) := ⟨_, rfl⟩
    have HZ : Hid (z = bs (quote text)) := hz
    have D7 : Hid (∀ W, Calls Tryz.prog 17 #[.string x2] W fun e w' => e = .returned (.string z) ∧ Turned (fun _ => False) W w') := hidS fun W => by rw [HX2.out, hz]; exact D17.out W
    clear hz D17
    go_wp2_with (go_at_call 17; (with_reducible refine (D7.out _).mono ?_); rintro e w6 ⟨rfl, ht6⟩; have T6 : Hid (Turned (fun _ => False) w w6) := T2.out.1.trans ht6 fun _ _ q => q; clear ht6)
  all_goals go_ret
  all_goals exact words_new (us := [.string nm, .string z]) (by rw [HN.out, HZ.out]; rfl) rfl T6.out

theorem Own.on {w w2 w5 : World} {e : TypeId} {size n : Nat} {v : Value} {xs : List Value} (h : Own w2 e size v xs n w5) (t : Turned (fun _ => False) w w2) : Own w e size v xs n w5 := by
  obtain ⟨⟨S, h1, h2⟩, h3⟩ := h
  exact ⟨⟨S, h1, fun b hb => by have := h2 b hb; have := t.size; omega⟩, t.trans h3 fun _ _ q => q⟩
theorem asked_any (w0 w : World) (hL : Lw w0 w) (R : Nat → Prop) (q : Ques) (cs : Array Value) (h : QuesV w R q cs) (ok : QuesOk q) (hk : 1 ≤ q.kind ∧ q.kind ≤ 12) :
    Calls Tryz.prog 67 #[.agg cs] w (StrsPost w (nameIn qnames q.kind :: askW q)) := by
  by_cases k1 : q.kind = 1 ∨ q.kind = 3 ∨ q.kind = 4
  · have e : askW q = [Lib.itoa q.a, Lib.itoa q.b] := by simp only [askW, if_pos k1]
    rw [e]; exact asked_nn w0 w hL R q cs h ok k1
  · by_cases k2 : q.kind = 2 ∨ q.kind = 5 ∨ q.kind = 6
    · have e : askW q = q.ids.map Lib.itoa := by simp only [askW, if_neg k1, if_pos k2]
      rw [e]; exact asked_s w0 w hL R q cs h ok k2
    · by_cases k3 : q.kind = 7 ∨ q.kind = 8
      · have e : askW q = [Lib.itoa q.a, quote q.path] := by simp only [askW, if_neg k1, if_neg k2, if_pos k3]
        rw [e]; exact asked_nt w0 w hL R q cs h ok k3
      · by_cases k4 : q.kind = 9 ∨ q.kind = 10
        · have e : askW q = [Lib.itoa q.a, Lib.itoa q.b, Lib.itoa q.limit] := by simp only [askW, if_neg k1, if_neg k2, if_neg k3, if_pos k4]
          rw [e]; exact asked_nnn w0 w hL R q cs h ok k4
        · have e : askW q = [Lib.itoa q.a] := by simp only [askW, if_neg k1, if_neg k2, if_neg k3, if_neg k4]
          rw [e]; exact asked_n w0 w hL R q cs h ok (by omega)

set_option maxRecDepth 100000 in
set_option maxHeartbeats 8000000 in
theorem told_12 (w0 w : World) (hL : Lw w0 w) (R : Nat → Prop) (c : Cmd) (cs : Array Value) (h : CmdR w R c cs) (ok : CmdOk c) (few : CmdFew c) (hf : 1 ≤ c.ask.kind ∧ c.ask.kind ≤ 12) (hk : c.kind = 12) :
    Calls Tryz.prog 39 #[.agg cs] w (StrsPost w (nameIn qnames c.ask.kind :: askW c.ask)) := by
  obtain ⟨a1, k1, a4, k4, a9, k9, rfl, h1, h4, h9⟩ := h
  obtain ⟨kind, nums, text, more, tree, ⟨qk, qa, qb, ql, ids, path⟩⟩ := c
  simp only [] at hk h1 h4 h9 hf ⊢
  subst hk
  have HL : Hid (Lw w0 w) := hL
  obtain ⟨nm, hnm⟩ : ∃ nm, nm = bs (nameIn cnames 12) := ⟨_, rfl⟩
  have HN : Hid (nm = bs (nameIn cnames 12)) := hnm
  have HK : Hid (∀ W n, (∀ k, (Instr.lookup 97 (.map (some n)) (.int .i64 k) false).run Tryz.prog W = .ok (.agg #[.string (bs (nameIn cnames k))]) W) → (Instr.lookup 97 (.map (some n)) (.int .i64 12) false).run Tryz.prog W = .ok (.agg #[.string nm]) W) := hidS fun W n q => by rw [hnm]; exact q 12
  have D67 : Hid (∀ W, Turned (fun _ => False) w W → Calls Tryz.prog 67 #[.agg #[.int .i64 qk, .int .i64 qa, .int .i64 qb, .int .i64 ql, .slice a9 ids.length k9, .string (bs path)]] W (StrsPost W (nameIn qnames qk :: askW ⟨qk, qa, qb, ql, ids, path⟩))) := fun W t => asked_any w0 W (hL.turned0 t) R ⟨qk, qa, qb, ql, ids, path⟩ _ ⟨a9, k9, rfl, h9.turned t fun _ _ q => q⟩ (few.ques ok) hf
  obtain ⟨x2, hx2⟩ : ∃ x2, x2 = bs text := ⟨_, rfl⟩
  have HX2 : Hid (x2 = bs text) := hx2
  rw [← hx2]
  obtain ⟨x3, hx3⟩ : ∃ x3, x3 = bs more := ⟨_, rfl⟩
  have HX3 : Hid (x3 = bs more) := hx3
  rw [← hx3]
  obtain ⟨x10, hx10⟩ : ∃ x10, x10 = bs path := ⟨_, rfl⟩
  have HX10 : Hid (x10 = bs path) := hx10
  rw [← hx10]
  obtain ⟨n1, hn1⟩ : ∃ n1, n1 = nums.length := ⟨_, rfl⟩
  have HN1 : Hid (n1 = nums.length) := hn1
  rw [← hn1]
  obtain ⟨n4, hn4⟩ : ∃ n4, n4 = tree.length := ⟨_, rfl⟩
  have HN4 : Hid (n4 = tree.length) := hn4
  rw [← hn4]
  obtain ⟨n9, hn9⟩ : ∃ n9, n9 = ids.length := ⟨_, rfl⟩
  have HN9 : Hid (n9 = ids.length) := hn9
  rw [← hn9]
  clear hL ok few h1 h4 h9 hnm hx2 hx3 hx10 hn1 hn4 hn9 hf
  go_enter Tryz.func39, Tryz.ntmps39
  go_wp2
  go_region_with (first
    | (go_at_call 51; (with_reducible refine (names_at _ (w.heap.size + 1) (by simp)).mono ?_); rintro e w2 ⟨rfl, lk, ht⟩
       have hb2 : w2.heap[w.heap.size]? = some (.cells #[.int .i64 12, .slice a1 n1 k1, .string x2, .string x3, .slice a4 n4 k4, .int .i64 qk, .int .i64 qa, .int .i64 qb, .int .i64 ql, .slice a9 n9 k9, .string x10] 39 (0, 0)) := box_at ht
       have c0 := cell_of hb2 0 _ rfl; have c1 := cell_of hb2 1 _ rfl; have c2 := cell_of hb2 2 _ rfl; have c3 := cell_of hb2 3 _ rfl; have c4 := cell_of hb2 4 _ rfl; have c5 := cell_of hb2 5 _ rfl; have c6 := cell_of hb2 6 _ rfl; have c7 := cell_of hb2 7 _ rfl; have c8 := cell_of hb2 8 _ rfl; have c9 := cell_of hb2 9 _ rfl; have c10 := cell_of hb2 10 _ rfl
       simp only [List.getElem_toArray, List.getElem_cons_zero, List.getElem_cons_succ] at c0 c1 c2 c3 c4 c5 c6 c7 c8 c9 c10
       have l2 := lt_of_block hb2
       have T2 : Hid (Turned (fun _ => False) w w2 ∧ w2.heap[w.heap.size]? = some (.cells #[.int .i64 12, .slice a1 n1 k1, .string x2, .string x3, .slice a4 n4 k4, .int .i64 qk, .int .i64 qa, .int .i64 qb, .int .i64 ql, .slice a9 n9 k9, .string x10] 39 (0, 0))) := ⟨((Turned.refl _ w).new _).draw.trans ht fun _ _ q => q, hb2⟩
       have lkk := HK.out w2 _ lk
       have fl := fld107 nm w2
       clear lk ht hb2))
  all_goals clear lkk fl
  all_goals (skip)
  all_goals
    have D := D67.out w2 T2.out.1
    rw [← HN9.out, ← HX10.out] at D
    go_wp2_with (go_at_call 67; (with_reducible refine D.mono ?_); rintro e w5 ⟨v5, rfl, ho⟩; have X5 : Hid (Own w2 9 1 v5 (scells (nameIn qnames qk :: askW ⟨qk, qa, qb, ql, ids, path⟩)) (nameIn qnames qk :: askW ⟨qk, qa, qb, ql, ids, path⟩).length w5) := ho; clear ho)
  all_goals go_ret
  all_goals exact ⟨_, rfl, X5.out.on T2.out.1⟩

end Go.Proofs.YteblabpplaaddaaGreatDoor

set_option linter.unusedVariables false
set_option linter.unusedSimpArgs false
namespace Go.Proofs.YteblabpplaaddaaGreatDoor
open Go.RowKit Go.Mine Go.Mine.Sc

theorem one_num {l : List Int} (h : l.length = 1) : l = [l.getD 0 0] := by
  match l, h with
  | [x], _ => rfl
theorem num_cell {w : World} {R : Nat → Prop} {a : Option Addr} {k : Nat} {x : Int} (h : Rd w R 1 (.slice a 1 k) (icells [x]) 1) : ∃ g o, a = some ⟨g, o, none⟩ ∧ ∀ W, Turned (fun _ => False) w W → W.cell? ⟨g, o, none⟩ = some (.int .i64 x) := by
  obtain ⟨g, o, h1, h2, h3⟩ := ints_rd (l := [x]) h 0 x rfl
  exact ⟨g, o, h1, fun W t => by rw [World.cell?_of_block (w' := W) (t.block g h2 id)]; simpa using h3⟩

theorem box_on {w w2 w5 : World} {b : Nat} {o : Obj} (h : Hid (Turned (fun _ => False) w w2 ∧ w2.heap[b]? = some o)) (t : Turned (fun _ => False) w2.drew w5) : Hid (Turned (fun _ => False) w w5 ∧ w5.heap[b]? = some o) :=
  ⟨h.out.1.trans ((Turned.drew _ _).trans t fun _ _ q => q) fun _ _ q => q, (t.block b (lt_of_block h.out.2) id).trans h.out.2⟩
theorem box_on0 {w w2 w5 : World} {b : Nat} {o : Obj} (h : Hid (Turned (fun _ => False) w w2 ∧ w2.heap[b]? = some o)) (t : Turned (fun _ => False) w2 w5) : Hid (Turned (fun _ => False) w w5 ∧ w5.heap[b]? = some o) :=
  ⟨h.out.1.trans t fun _ _ q => q, (t.block b (lt_of_block h.out.2) id).trans h.out.2⟩

set_option maxRecDepth 100000 in
set_option maxHeartbeats 8000000 in
theorem told_11 (w0 w : World) (hL : Lw w0 w) (R : Nat → Prop) (c : Cmd) (cs : Array Value) (h : CmdR w R c cs) (ok : CmdOk c) (few : CmdFew c) (hf : c.nums.length = 1) (hk : c.kind = 11) :
    Calls Tryz.prog 39 #[.agg cs] w (StrsPost w ([nameIn cnames c.kind, quote c.text, Lib.itoa (c.nums.getD 0 0)])) := by
  obtain ⟨a1, k1, a4, k4, a9, k9, rfl, h1, h4, h9⟩ := h
  obtain ⟨kind, nums, text, more, tree, ⟨qk, qa, qb, ql, ids, path⟩⟩ := c
  simp only [] at hk h1 h4 h9 hf ⊢
  subst hk
  have HL : Hid (Lw w0 w) := hL
  obtain ⟨nm, hnm⟩ : ∃ nm, nm = bs (nameIn cnames 11) := ⟨_, rfl⟩
  have HN : Hid (nm = bs (nameIn cnames 11)) := hnm
  have HK : Hid (∀ W n, (∀ k, (Instr.lookup 97 (.map (some n)) (.int .i64 k) false).run Tryz.prog W = .ok (.agg #[.string (bs (nameIn cnames k))]) W) → (Instr.lookup 97 (.map (some n)) (.int .i64 11) false).run Tryz.prog W = .ok (.agg #[.string nm]) W) := hidS fun W n q => by rw [hnm]; exact q 11
  obtain ⟨n0, hn0⟩ : ∃ n0, nums = [n0] := ⟨_, one_num hf⟩
  subst hn0
  obtain ⟨g1, o1, rfl, nc⟩ := num_cell h1
  have NC : Hid (∀ W, Turned (fun _ => False) w W → W.cell? ⟨g1, o1, none⟩ = some (.int .i64 n0)) := nc
  have D66 : Hid (∀ W, Turned (fun _ => False) w W → Calls Tryz.prog 66 #[.int .i64 n0] W fun e w' => e = .returned (.string (bs (Lib.itoa n0))) ∧ Turned (fun _ => False) W w') := fun W t => itoa_any n0 (ok.nums n0 (by simp)) w0 W (hL.turned0 t)
  have D17 : Hid (∀ W, Calls Tryz.prog 17 #[.string (bs text)] W fun e w' => e = .returned (.string (bs (quote text))) ∧ Turned (fun _ => False) W w') := fun W => quote_any text W (Nat.le_trans few.text (by decide))
  clear nc
  obtain ⟨x2, hx2⟩ : ∃ x2, x2 = bs text := ⟨_, rfl⟩
  have HX2 : Hid (x2 = bs text) := hx2
  rw [← hx2]
  obtain ⟨x3, hx3⟩ : ∃ x3, x3 = bs more := ⟨_, rfl⟩
  have HX3 : Hid (x3 = bs more) := hx3
  rw [← hx3]
  obtain ⟨x10, hx10⟩ : ∃ x10, x10 = bs path := ⟨_, rfl⟩
  have HX10 : Hid (x10 = bs path) := hx10
  rw [← hx10]
  change Calls Tryz.prog 39 #[.agg #[_, .slice _ 1 _, _, _, _, _, _, _, _, _, _]] _ _
  obtain ⟨n4, hn4⟩ : ∃ n4, n4 = tree.length := ⟨_, rfl⟩
  have HN4 : Hid (n4 = tree.length) := hn4
  rw [← hn4]
  obtain ⟨n9, hn9⟩ : ∃ n9, n9 = ids.length := ⟨_, rfl⟩
  have HN9 : Hid (n9 = ids.length) := hn9
  rw [← hn9]
  clear hL ok few h1 h4 h9 hnm hx2 hx3 hx10 hn4 hn9 hf
  go_enter Tryz.func39, Tryz.ntmps39
  go_wp2
  go_region_with (first
    | (go_at_call 51; (with_reducible refine (names_at _ (w.heap.size + 1) (by simp)).mono ?_); rintro e w2 ⟨rfl, lk, ht⟩
       have hb2 : w2.heap[w.heap.size]? = some (.cells #[.int .i64 11, .slice (some ⟨g1, o1, none⟩) 1 k1, .string x2, .string x3, .slice a4 n4 k4, .int .i64 qk, .int .i64 qa, .int .i64 qb, .int .i64 ql, .slice a9 n9 k9, .string x10] 39 (0, 0)) := box_at ht
       have c0 := cell_of hb2 0 _ rfl; have c1 := cell_of hb2 1 _ rfl; have c2 := cell_of hb2 2 _ rfl; have c3 := cell_of hb2 3 _ rfl; have c4 := cell_of hb2 4 _ rfl; have c5 := cell_of hb2 5 _ rfl; have c6 := cell_of hb2 6 _ rfl; have c7 := cell_of hb2 7 _ rfl; have c8 := cell_of hb2 8 _ rfl; have c9 := cell_of hb2 9 _ rfl; have c10 := cell_of hb2 10 _ rfl
       simp only [List.getElem_toArray, List.getElem_cons_zero, List.getElem_cons_succ] at c0 c1 c2 c3 c4 c5 c6 c7 c8 c9 c10
       have l2 := lt_of_block hb2
       have T2 : Hid (Turned (fun _ => False) w w2 ∧ w2.heap[w.heap.size]? = some (.cells #[.int .i64 11, .slice (some ⟨g1, o1, none⟩) 1 k1, .string x2, .string x3, .slice a4 n4 k4, .int .i64 qk, .int .i64 qa, .int .i64 qb, .int .i64 ql, .slice a9 n9 k9, .string x10] 39 (0, 0))) := ⟨((Turned.refl _ w).new _).draw.trans ht fun _ _ q => q, hb2⟩
       have lkk := HK.out w2 _ lk
       have fl := fld107 nm w2
       clear lk ht hb2))
  all_goals clear lkk fl
  all_goals (skip)
  all_goals
    obtain ⟨y, hy⟩ : ∃ y, y = bs (Lib.itoa n0) := ⟨_, rfl⟩
    have HY : Hid (y = bs (Lib.itoa n0)) := hy
    have D6 : Hid (∀ W, Turned (fun _ => False) w W → Calls Tryz.prog 66 #[.int .i64 n0] W fun e w' => e = .returned (.string y) ∧ Turned (fun _ => False) W w') := hidS fun W t => by rw [hy]; exact D66.out W t
    obtain ⟨z, hz⟩ : ∃ z, z = bs (quote text) := ⟨_, rfl⟩
    have HZ : Hid (z = bs (quote text)) := hz
    have D7 : Hid (∀ W, Calls Tryz.prog 17 #[.string x2] W fun e w' => e = .returned (.string z) ∧ Turned (fun _ => False) W w') := hidS fun W => by rw [HX2.out, hz]; exact D17.out W
    have nc2 := NC.out w2 T2.out.1
    clear hy hz D17 D66
    have KS : Hid (∀ W, Turned (fun _ => False) w2 W → Turned (fun _ => False) w2 W ∧ W.cell? ⟨w.heap.size, 1, none⟩ = some (.slice (some ⟨g1, o1, none⟩) 1 k1) ∧ W.cell? ⟨w.heap.size, 2, none⟩ = some (.string x2) ∧ W.cell? ⟨w.heap.size, 3, none⟩ = some (.string x3) ∧ W.cell? ⟨g1, o1, none⟩ = some (.int .i64 n0)) := hidS fun W t => by
      have z1 := (t.block _ (lt_of_block T2.out.2) id).trans T2.out.2
      exact ⟨t, cell_of z1 1 _ rfl, cell_of z1 2 _ rfl, cell_of z1 3 _ rfl, NC.out W (T2.out.1.trans t fun _ _ q => q)⟩
    have V0 : Turned (fun _ => False) w2 w2.drew := Turned.drew _ _
    clear nc2
    go_wp2
    go_region_held3 (fun W => Turned (fun _ => False) w2 W ∧ W.cell? ⟨w.heap.size, 1, none⟩ = some (.slice (some ⟨g1, o1, none⟩) 1 k1) ∧ W.cell? ⟨w.heap.size, 2, none⟩ = some (.string x2) ∧ W.cell? ⟨w.heap.size, 3, none⟩ = some (.string x3) ∧ W.cell? ⟨g1, o1, none⟩ = some (.int .i64 n0))
      (first | (exact KS.out _ (by assumption)) | (exact KS.out _ (Turned.new (by assumption) _)) | go_keep)
      (first
        | (go_at_call 17; (with_reducible refine (D7.out _).mono ?_); rintro e v1 ⟨rfl, hv⟩; have V1 : Turned (fun _ => False) w2 v1 := V0.trans hv (fun _ _ q => q); clear hv)
        | (go_at_call 66; (with_reducible refine (D6.out _ (T2.out.1.trans V1 fun _ _ q => q)).mono ?_); rintro e v2 ⟨rfl, hv⟩; have V2 : Turned (fun _ => False) w2 v2 := V1.trans hv (fun _ _ q => q); clear hv))
    all_goals go_wp2
  all_goals go_ret
  all_goals exact words_new (us := [.string nm, .string z, .string y]) (by rw [HN.out, HZ.out, HY.out]; rfl) rfl (T2.out.1.trans V2 fun _ _ q => q)

set_option maxRecDepth 100000 in
set_option maxHeartbeats 8000000 in
theorem told_9 (w0 w : World) (hL : Lw w0 w) (R : Nat → Prop) (c : Cmd) (cs : Array Value) (h : CmdR w R c cs) (ok : CmdOk c) (few : CmdFew c) (hf : c.nums.length = 1) (hk : c.kind = 9) :
    Calls Tryz.prog 39 #[.agg cs] w (StrsPost w ([nameIn cnames c.kind, quote c.text, Lib.itoa (c.nums.getD 0 0), quote c.more])) := by
  obtain ⟨a1, k1, a4, k4, a9, k9, rfl, h1, h4, h9⟩ := h
  obtain ⟨kind, nums, text, more, tree, ⟨qk, qa, qb, ql, ids, path⟩⟩ := c
  simp only [] at hk h1 h4 h9 hf ⊢
  subst hk
  have HL : Hid (Lw w0 w) := hL
  obtain ⟨nm, hnm⟩ : ∃ nm, nm = bs (nameIn cnames 9) := ⟨_, rfl⟩
  have HN : Hid (nm = bs (nameIn cnames 9)) := hnm
  have HK : Hid (∀ W n, (∀ k, (Instr.lookup 97 (.map (some n)) (.int .i64 k) false).run Tryz.prog W = .ok (.agg #[.string (bs (nameIn cnames k))]) W) → (Instr.lookup 97 (.map (some n)) (.int .i64 9) false).run Tryz.prog W = .ok (.agg #[.string nm]) W) := hidS fun W n q => by rw [hnm]; exact q 9
  obtain ⟨n0, hn0⟩ : ∃ n0, nums = [n0] := ⟨_, one_num hf⟩
  subst hn0
  obtain ⟨g1, o1, rfl, nc⟩ := num_cell h1
  have NC : Hid (∀ W, Turned (fun _ => False) w W → W.cell? ⟨g1, o1, none⟩ = some (.int .i64 n0)) := nc
  have D66 : Hid (∀ W, Turned (fun _ => False) w W → Calls Tryz.prog 66 #[.int .i64 n0] W fun e w' => e = .returned (.string (bs (Lib.itoa n0))) ∧ Turned (fun _ => False) W w') := fun W t => itoa_any n0 (ok.nums n0 (by simp)) w0 W (hL.turned0 t)
  have D17 : Hid (∀ W, Calls Tryz.prog 17 #[.string (bs text)] W fun e w' => e = .returned (.string (bs (quote text))) ∧ Turned (fun _ => False) W w') := fun W => quote_any text W (Nat.le_trans few.text (by decide))
  have D17b : Hid (∀ W, Calls Tryz.prog 17 #[.string (bs more)] W fun e w' => e = .returned (.string (bs (quote more))) ∧ Turned (fun _ => False) W w') := fun W => quote_any more W (Nat.le_trans few.more (by decide))
  clear nc
  obtain ⟨x2, hx2⟩ : ∃ x2, x2 = bs text := ⟨_, rfl⟩
  have HX2 : Hid (x2 = bs text) := hx2
  rw [← hx2]
  obtain ⟨x3, hx3⟩ : ∃ x3, x3 = bs more := ⟨_, rfl⟩
  have HX3 : Hid (x3 = bs more) := hx3
  rw [← hx3]
  obtain ⟨x10, hx10⟩ : ∃ x10, x10 = bs path := ⟨_, rfl⟩
  have HX10 : Hid (x10 = bs path) := hx10
  rw [← hx10]
  change Calls Tryz.prog 39 #[.agg #[_, .slice _ 1 _, _, _, _, _, _, _, _, _, _]] _ _
  obtain ⟨n4, hn4⟩ : ∃ n4, n4 = tree.length := ⟨_, rfl⟩
  have HN4 : Hid (n4 = tree.length) := hn4
  rw [← hn4]
  obtain ⟨n9, hn9⟩ : ∃ n9, n9 = ids.length := ⟨_, rfl⟩
  have HN9 : Hid (n9 = ids.length) := hn9
  rw [← hn9]
  clear hL ok few h1 h4 h9 hnm hx2 hx3 hx10 hn4 hn9 hf
  go_enter Tryz.func39, Tryz.ntmps39
  go_wp2
  go_region_with (first
    | (go_at_call 51; (with_reducible refine (names_at _ (w.heap.size + 1) (by simp)).mono ?_); rintro e w2 ⟨rfl, lk, ht⟩
       have hb2 : w2.heap[w.heap.size]? = some (.cells #[.int .i64 9, .slice (some ⟨g1, o1, none⟩) 1 k1, .string x2, .string x3, .slice a4 n4 k4, .int .i64 qk, .int .i64 qa, .int .i64 qb, .int .i64 ql, .slice a9 n9 k9, .string x10] 39 (0, 0)) := box_at ht
       have c0 := cell_of hb2 0 _ rfl; have c1 := cell_of hb2 1 _ rfl; have c2 := cell_of hb2 2 _ rfl; have c3 := cell_of hb2 3 _ rfl; have c4 := cell_of hb2 4 _ rfl; have c5 := cell_of hb2 5 _ rfl; have c6 := cell_of hb2 6 _ rfl; have c7 := cell_of hb2 7 _ rfl; have c8 := cell_of hb2 8 _ rfl; have c9 := cell_of hb2 9 _ rfl; have c10 := cell_of hb2 10 _ rfl
       simp only [List.getElem_toArray, List.getElem_cons_zero, List.getElem_cons_succ] at c0 c1 c2 c3 c4 c5 c6 c7 c8 c9 c10
       have l2 := lt_of_block hb2
       have T2 : Hid (Turned (fun _ => False) w w2 ∧ w2.heap[w.heap.size]? = some (.cells #[.int .i64 9, .slice (some ⟨g1, o1, none⟩) 1 k1, .string x2, .string x3, .slice a4 n4 k4, .int .i64 qk, .int .i64 qa, .int .i64 qb, .int .i64 ql, .slice a9 n9 k9, .string x10] 39 (0, 0))) := ⟨((Turned.refl _ w).new _).draw.trans ht fun _ _ q => q, hb2⟩
       have lkk := HK.out w2 _ lk
       have fl := fld107 nm w2
       clear lk ht hb2))
  all_goals clear lkk fl
  all_goals (skip)
  all_goals
    obtain ⟨y, hy⟩ : ∃ y, y = bs (Lib.itoa n0) := ⟨_, rfl⟩
    have HY : Hid (y = bs (Lib.itoa n0)) := hy
    have D6 : Hid (∀ W, Turned (fun _ => False) w W → Calls Tryz.prog 66 #[.int .i64 n0] W fun e w' => e = .returned (.string y) ∧ Turned (fun _ => False) W w') := hidS fun W t => by rw [hy]; exact D66.out W t
    obtain ⟨z, hz⟩ : ∃ z, z = bs (quote text) := ⟨_, rfl⟩
    have HZ : Hid (z = bs (quote text)) := hz
    have D7 : Hid (∀ W, Calls Tryz.prog 17 #[.string x2] W fun e w' => e = .returned (.string z) ∧ Turned (fun _ => False) W w') := hidS fun W => by rw [HX2.out, hz]; exact D17.out W
    have nc2 := NC.out w2 T2.out.1
    clear hy hz D17 D66
    obtain ⟨z2, hz2⟩ : ∃ z2, z2 = bs (quote more) := ⟨_, rfl⟩
    have HZ2 : Hid (z2 = bs (quote more)) := hz2
    have D7b : Hid (∀ W, Calls Tryz.prog 17 #[.string x3] W fun e w' => e = .returned (.string z2) ∧ Turned (fun _ => False) W w') := hidS fun W => by rw [HX3.out, hz2]; exact D17b.out W
    clear hz2 D17b
    have KS : Hid (∀ W, Turned (fun _ => False) w2 W → Turned (fun _ => False) w2 W ∧ W.cell? ⟨w.heap.size, 1, none⟩ = some (.slice (some ⟨g1, o1, none⟩) 1 k1) ∧ W.cell? ⟨w.heap.size, 2, none⟩ = some (.string x2) ∧ W.cell? ⟨w.heap.size, 3, none⟩ = some (.string x3) ∧ W.cell? ⟨g1, o1, none⟩ = some (.int .i64 n0)) := hidS fun W t => by
      have z1 := (t.block _ (lt_of_block T2.out.2) id).trans T2.out.2
      exact ⟨t, cell_of z1 1 _ rfl, cell_of z1 2 _ rfl, cell_of z1 3 _ rfl, NC.out W (T2.out.1.trans t fun _ _ q => q)⟩
    have V0 : Turned (fun _ => False) w2 w2.drew := Turned.drew _ _
    clear nc2
    go_wp2
    go_region_held3 (fun W => Turned (fun _ => False) w2 W ∧ W.cell? ⟨w.heap.size, 1, none⟩ = some (.slice (some ⟨g1, o1, none⟩) 1 k1) ∧ W.cell? ⟨w.heap.size, 2, none⟩ = some (.string x2) ∧ W.cell? ⟨w.heap.size, 3, none⟩ = some (.string x3) ∧ W.cell? ⟨g1, o1, none⟩ = some (.int .i64 n0))
      (first | (exact KS.out _ (by assumption)) | (exact KS.out _ (Turned.new (by assumption) _)) | go_keep)
      (first
        | (go_at_call 17; (with_reducible refine (D7.out _).mono ?_); rintro e v1 ⟨rfl, hv⟩; have V1 : Turned (fun _ => False) w2 v1 := V0.trans hv (fun _ _ q => q); clear hv)
        | (go_at_call 66; (with_reducible refine (D6.out _ (T2.out.1.trans V1 fun _ _ q => q)).mono ?_); rintro e v2 ⟨rfl, hv⟩; have V2 : Turned (fun _ => False) w2 v2 := V1.trans hv (fun _ _ q => q); clear hv)
        | (go_at_call 17; (with_reducible refine (D7b.out _).mono ?_); rintro e v3 ⟨rfl, hv⟩; have V3 : Turned (fun _ => False) w2 v3 := V2.trans hv (fun _ _ q => q); clear hv))
    all_goals go_wp2
  all_goals go_ret
  all_goals exact words_new (us := [.string nm, .string z, .string y, .string z2]) (by rw [HN.out, HZ.out, HY.out, HZ2.out]; rfl) rfl (T2.out.1.trans V3 fun _ _ q => q)

end Go.Proofs.YteblabpplaaddaaGreatDoor

set_option linter.unusedVariables false
set_option linter.unusedSimpArgs false
namespace Go.Proofs.YteblabpplaaddaaGreatDoor
open Go.RowKit Go.Mine Go.Mine.Sc

def TrR (w2 : World) (x : B) (l : List (B × Int)) (g : Nat) (v vi : Value) (wr : World) : Prop := ∃ i : Nat, i + g = l.length ∧ vi = .int .i64 (i : Nat) ∧ Own w2 9 1 v (scells (x :: treeW (l.take i))) (1 + 2 * i) wr
theorem treeW_succ {l : List (B × Int)} {i : Nat} {p : B} {n : Int} (h : l[i]? = some (p, n)) : treeW (l.take (i + 1)) = treeW (l.take i) ++ [quote p, Lib.itoa n] := by
  rw [List.take_add_one, h]; simp [treeW]
theorem treeW_len : ∀ (l : List (B × Int)), (treeW l).length = 2 * l.length
  | [] => rfl
  | e :: l => by
    have := treeW_len l
    simp only [treeW, List.flatMap_cons, List.length_append, List.length_cons, List.length_nil] at this ⊢
    omega

set_option maxRecDepth 100000 in
set_option maxHeartbeats 8000000 in
theorem told_2 (w0 w : World) (hL : Lw w0 w) (R : Nat → Prop) (c : Cmd) (cs : Array Value) (h : CmdR w R c cs) (ok : CmdOk c) (few : CmdFew c) (hk : c.kind = 2) :
    Calls Tryz.prog 39 #[.agg cs] w (StrsPost w (nameIn cnames c.kind :: treeW c.tree)) := by
  obtain ⟨a1, k1, a4, k4, a9, k9, rfl, h1, h4, h9⟩ := h
  obtain ⟨kind, nums, text, more, tree, ⟨qk, qa, qb, ql, ids, path⟩⟩ := c
  simp only [] at hk h1 h4 h9 ⊢
  subst hk
  have HL0 : Hid (Lw w0 w) := hL
  obtain ⟨nm, hnm⟩ : ∃ nm, nm = bs (nameIn cnames 2) := ⟨_, rfl⟩
  have HN : Hid (nm = bs (nameIn cnames 2)) := hnm
  have HK : Hid (∀ W n, (∀ k, (Instr.lookup 97 (.map (some n)) (.int .i64 k) false).run Tryz.prog W = .ok (.agg #[.string (bs (nameIn cnames k))]) W) → (Instr.lookup 97 (.map (some n)) (.int .i64 2) false).run Tryz.prog W = .ok (.agg #[.string nm]) W) := hidS fun W n q => by rw [hnm]; exact q 2
  have H4 : Hid (Rd w R 2 (.slice a4 tree.length k4) (tcells tree) tree.length ∧ (∀ e ∈ tree, 0 ≤ e.2 ∧ e.2 < 4294967296 ∧ e.1.length ≤ 1048576) ∧ tree.length ≤ 1048576) := ⟨h4, fun e he => ⟨(ok.tree e he).1, (ok.tree e he).2, few.path e he⟩, few.tree⟩
  obtain ⟨x2, hx2⟩ : ∃ x2, x2 = bs text := ⟨_, rfl⟩
  have HX2 : Hid (x2 = bs text) := hx2
  rw [← hx2]
  obtain ⟨x3, hx3⟩ : ∃ x3, x3 = bs more := ⟨_, rfl⟩
  have HX3 : Hid (x3 = bs more) := hx3
  rw [← hx3]
  obtain ⟨x10, hx10⟩ : ∃ x10, x10 = bs path := ⟨_, rfl⟩
  have HX10 : Hid (x10 = bs path) := hx10
  rw [← hx10]
  obtain ⟨n1, hn1⟩ : ∃ n1, n1 = nums.length := ⟨_, rfl⟩
  have HN1 : Hid (n1 = nums.length) := hn1
  rw [← hn1]
  obtain ⟨n4, hn4⟩ : ∃ n4, n4 = tree.length := ⟨_, rfl⟩
  have HN4 : Hid (n4 = tree.length) := hn4
  rw [← hn4]
  obtain ⟨n9, hn9⟩ : ∃ n9, n9 = ids.length := ⟨_, rfl⟩
  have HN9 : Hid (n9 = ids.length) := hn9
  rw [← hn9]
  clear hL ok few h1 h4 h9 hnm hx2 hx3 hx10 hn1 hn4 hn9
  go_enter Tryz.func39, Tryz.ntmps39
  go_wp2
  go_region_with (first
    | (go_at_call 51; (with_reducible refine (names_at _ (w.heap.size + 1) (by simp)).mono ?_); rintro e w2 ⟨rfl, lk, ht⟩
       have hb2 : w2.heap[w.heap.size]? = some (.cells #[.int .i64 2, .slice a1 n1 k1, .string x2, .string x3, .slice a4 n4 k4, .int .i64 qk, .int .i64 qa, .int .i64 qb, .int .i64 ql, .slice a9 n9 k9, .string x10] 39 (0, 0)) := box_at ht
       have c0 := cell_of hb2 0 _ rfl; have c1 := cell_of hb2 1 _ rfl; have c2 := cell_of hb2 2 _ rfl; have c3 := cell_of hb2 3 _ rfl; have c4 := cell_of hb2 4 _ rfl; have c5 := cell_of hb2 5 _ rfl; have c6 := cell_of hb2 6 _ rfl; have c7 := cell_of hb2 7 _ rfl; have c8 := cell_of hb2 8 _ rfl; have c9 := cell_of hb2 9 _ rfl; have c10 := cell_of hb2 10 _ rfl
       simp only [List.getElem_toArray, List.getElem_cons_zero, List.getElem_cons_succ] at c0 c1 c2 c3 c4 c5 c6 c7 c8 c9 c10
       have l2 := lt_of_block hb2
       have T2 : Hid (Turned (fun _ => False) w w2 ∧ w2.heap[w.heap.size]? = some (.cells #[.int .i64 2, .slice a1 n1 k1, .string x2, .string x3, .slice a4 n4 k4, .int .i64 qk, .int .i64 qa, .int .i64 qb, .int .i64 ql, .slice a9 n9 k9, .string x10] 39 (0, 0))) := ⟨((Turned.refl _ w).new _).draw.trans ht fun _ _ q => q, hb2⟩
       have lkk := HK.out w2 _ lk
       have fl := fld107 nm w2
       clear lk ht hb2))
  all_goals clear lkk fl
  all_goals (skip)
  all_goals
    have B0 : Hid (TrR w2 (nameIn cnames 2) tree n4 (.slice (some ⟨w2.heap.size, 0, none⟩) 1 1) (.int .i64 0) (w2.alloc (.cells #[.string nm] 9))) := hidS ⟨0, by rw [Nat.zero_add]; exact HN4.out, rfl, ⟨_, by rw [show scells (nameIn cnames 2 :: treeW (tree.take 0)) = [.string nm] by rw [HN.out]; rfl]; exact row_sl w2 [.string nm] 9 (by simp [maxLen]), fun b hb => by omega⟩, Turned.alloc _ _ _⟩
    go_wp2
    go_loopg [4, 32] n4 (fun g v vi wr => TrR w2 (nameIn cnames 2) tree g v vi wr)
    case atStart => exact B0.out
    case round =>
      obtain ⟨i, hig, rfl, ⟨S, hsl, hS⟩, ht⟩ := hrel
      obtain ⟨a3, cap3, rfl, -, -⟩ := hsl.value
      have G : Hid (i + gk = tree.length) := hig
      have SL : Hid (Sl wr S 9 1 (.slice a3 (1 + 2 * i) cap3) (scells (nameIn cnames 2 :: treeW (tree.take i))) (1 + 2 * i)) := hsl
      have AP : Hid (∀ b, S b → w2.heap.size ≤ b) := hS
      have T : Hid (Turned (fun _ => False) w2 wr) := ht
      obtain ⟨L, hL⟩ : ∃ L, L = 1 + 2 * i := ⟨_, rfl⟩
      have HL : Hid (L = 1 + 2 * i) := hL
      rw [← hL]
      clear hig hsl hS ht B0 hL c0 c1 c2 c3 c4 c5 c6 c7 c8 c9 c10 l2
      by_cases hlt : i < n4
      · obtain ⟨⟨px, nx⟩, hx⟩ : ∃ x, tree[i]? = some x := ⟨_, List.getElem?_eq_getElem (by rw [← HN4.out]; exact hlt)⟩
        obtain ⟨g1, o1, rfl, hg1, c1, c2⟩ := ents_rd (H4.out.1.turned (T2.out.1.trans T.out fun _ _ q => q) fun _ _ q => q) i px nx hx
        have HX : Hid (tree[i]? = some (px, nx)) := hx
        have hm := H4.out.2.1 (px, nx) (List.mem_of_getElem? hx)
        simp only [] at hm
        have hd1 : decide ((i : Int) < (n4 : Int)) = true := by simp; omega
        have hd2 : decide (i < n4) = true := by simp; omega
        have HLT : Hid (i < n4 ∧ n4 ≤ 1048576) := ⟨hlt, by have := HN4.out; have := H4.out.2.2; omega⟩
        have HW : Hid (wrap64 ((i : Int) + 1) = ((i + 1 : Nat) : Int)) := hidS (w64_in _ (by have := HLT.out; omega))
        have m1 : Hid (L + 2 ≤ maxLen ∧ (L + 2) * 16 ≤ 140737488355328) := hidS (by have := HLT.out; have := HL.out; simp only [maxLen]; omega)
        have D66 : Hid (∀ W, Turned (fun _ => False) w W → Calls Tryz.prog 66 #[.int .i64 nx] W fun e w' => e = .returned (.string (bs (Lib.itoa nx))) ∧ Turned (fun _ => False) W w') := hidS fun W t => itoa_any nx (by unfold I64; omega) w0 W (HL0.out.turned0 t)
        have D17 : Hid (∀ W, Calls Tryz.prog 17 #[.string (bs px)] W fun e w' => e = .returned (.string (bs (quote px))) ∧ Turned (fun _ => False) W w') := hidS fun W => quote_any px W (Nat.le_trans hm.2.2 (by decide))
        have NW : Hid (IntKind.i64.wrap nx = nx ∧ wrap64 nx = nx) := hidS ⟨by rw [Go.IntWalk.i64_in _ (by omega)], by rw [w64_in _ (by omega)]⟩
        obtain ⟨y, hy⟩ : ∃ y, y = bs (Lib.itoa nx) := ⟨_, rfl⟩
        have HY : Hid (y = bs (Lib.itoa nx)) := hy
        obtain ⟨z, hz⟩ : ∃ z, z = bs (quote px) := ⟨_, rfl⟩
        have HZ : Hid (z = bs (quote px)) := hz
        rw [← hy] at D66
        rw [← hz] at D17
        have nw1 := NW.out.1
        have nw2 := NW.out.2
        obtain ⟨xp, hxp⟩ : ∃ xp, xp = bs px := ⟨_, rfl⟩
        rw [← hxp] at D17 c1
        clear hx hm hy hz hxp
        go_upto_region 13 with (fail)
        have KS : Hid (∀ W, Turned (fun b => S b ∧ b < wr.heap.size) (wr.alloc (.cells #[.string xp, .int .u32 nx] 54)) W → Turned (fun b => S b ∧ b < wr.heap.size) (wr.alloc (.cells #[.string xp, .int .u32 nx] 54)) W ∧ W.cell? ⟨wr.heap.size, 0, none⟩ = some (.string xp) ∧ W.cell? ⟨wr.heap.size, 1, none⟩ = some (.int .u32 nx)) := hidS fun W t => by
          have z1 := (t.block wr.heap.size (by simp) fun q => by have := q.2; omega).trans (heap_alloc_new wr (.cells #[.string xp, .int .u32 nx] 54))
          exact ⟨t, cell_of z1 0 _ rfl, cell_of z1 1 _ rfl⟩
        have V0 : Turned (fun b => S b ∧ b < wr.heap.size) (wr.alloc (.cells #[.string xp, .int .u32 nx] 54)) (wr.alloc (.cells #[.string xp, .int .u32 nx] 54)).drew := Turned.drew _ _
        have SB : Hid (Sl wr (fun b => S b ∧ b < wr.heap.size) 9 1 (.slice a3 L cap3) (scells (nameIn cnames 2 :: treeW (tree.take i))) L) := hidS (by rw [HL.out]; exact Sl.bound SL.out)
        have U0 : Hid (Turned (fun _ => False) wr (wr.alloc (.cells #[.string xp, .int .u32 nx] 54)).drew) := hidS ((Turned.alloc _ _ _).draw)
        go_region_held3 (fun W => Turned (fun b => S b ∧ b < wr.heap.size) (wr.alloc (.cells #[.string xp, .int .u32 nx] 54)) W ∧ W.cell? ⟨wr.heap.size, 0, none⟩ = some (.string xp) ∧ W.cell? ⟨wr.heap.size, 1, none⟩ = some (.int .u32 nx))
          (first | (exact KS.out _ (by assumption)) | (exact KS.out _ (Turned.new (by assumption) _)) | go_keep)
          (first
            | (go_at_call 17; (with_reducible refine (D17.out _).mono ?_); rintro e v1 ⟨rfl, hv⟩; have V1 : Turned (fun b => S b ∧ b < wr.heap.size) (wr.alloc (.cells #[.string xp, .int .u32 nx] 54)) v1 := V0.trans hv (fun _ _ q => q.elim); have U1 : Hid (Turned (fun _ => False) wr v1) := hidS (U0.out.trans hv fun _ _ q => q); clear hv)
            | (go_at_call 66; (with_reducible refine (D66.out _ ((T2.out.1.trans T.out fun _ _ q => q).trans U1.out fun _ _ q => q)).mono ?_); rintro e v2 ⟨rfl, hv⟩; have V2 : Turned (fun b => S b ∧ b < wr.heap.size) (wr.alloc (.cells #[.string xp, .int .u32 nx] 54)) v2 := V1.trans hv (fun _ _ q => q.elim); have U2 : Hid (Turned (fun _ => False) wr v2) := hidS (U1.out.trans hv fun _ _ q => q); have es : scells [quote px, Lib.itoa nx] = [.string z, .string y] := by rw [HY.out, HZ.out]; rfl
               have X6 : Hid (Src Tryz.prog 1 24 (.slice (some ⟨v2.heap.size, 0, none⟩) 2 2) 2 (scells [quote px, Lib.itoa nx]) (v2.alloc (.cells #[.string z, .string y] 9)) ∧ Sl (v2.alloc (.cells #[.string z, .string y] 9)) (fun b => S b ∧ b < wr.heap.size) 9 1 (.slice a3 L cap3) (scells (nameIn cnames 2 :: treeW (tree.take i))) L) := ⟨by rw [es]; exact src_row Tryz.underlying24 [.string z, .string y] (by simp [Value.oneCell']) v2, SB.out.turned (U2.out.new _) fun _ _ q => q⟩
               clear hv es)
            | (refine step_append (by rfl) _ _ 24 24 (by rfl) X6.out.2 Tryz.underlying24 info9 rfl (by decide) (by rfl) (.slice (some ⟨v2.heap.size, 0, none⟩) 2 2) (by rfl) X6.out.1 m1.out.1 m1.out.2 ?_; intro x4 w9 q1 t1; obtain ⟨a5, cap5, hv5, -, -⟩ := q1.value; subst hv5; have V9 : Turned (fun b => S b ∧ b < wr.heap.size) (wr.alloc (.cells #[.string xp, .int .u32 nx] 54)) w9 := (V2.new _).trans t1 (fun _ _ q => q); have Q1 := hid_two q1 t1; clear q1 t1))
        all_goals go_wp2
        all_goals
          go_roundg (gk - 1)
          case measure => have := G.out; have := HLT.out; have := HN4.out; omega
          case rel =>
            refine ⟨i + 1, by have := G.out; have := HLT.out; have := HN4.out; omega, by rw [HW.out], ?_⟩
            have e : scells (nameIn cnames 2 :: treeW (tree.take (i + 1))) = scells (nameIn cnames 2 :: treeW (tree.take i)) ++ scells [quote px, Lib.itoa nx] := by
              rw [treeW_succ HX.out, ← scells_app, List.cons_append]
            have e2 : 1 + 2 * (i + 1) = L + 2 := by have := HL.out; omega
            rw [e, e2]
            exact own_app (fun b hb => AP.out b hb.1) T.out (U2.out.new _) Q1.out.1 Q1.out.2
      · have hd1 : decide ((i : Int) < (n4 : Int)) = false := by simp; omega
        have hd2 : decide (i < n4) = false := by simp; omega
        have HE : Hid (i = tree.length ∧ tree.take i = tree) := ⟨by have := G.out; have := HN4.out; omega, List.take_of_length_le (by have := HN4.out; omega)⟩
        clear hlt
        go_wp2
        go_ret
        refine ⟨_, rfl, Own.on ⟨⟨S, ?_, AP.out⟩, T.out⟩ T2.out.1⟩
        have h3 := SL.out
        rw [HE.out.2] at h3
        have e : (nameIn cnames 2 :: treeW tree).length = L := by rw [List.length_cons, treeW_len, HL.out, HE.out.1]; omega
        rw [e, HL.out]
        exact h3
end Go.Proofs.YteblabpplaaddaaGreatDoor

set_option linter.unusedVariables false
set_option linter.unusedSimpArgs false
namespace Go.Proofs.YteblabpplaaddaaGreatDoor
open Go.RowKit Go.Mine Go.Mine.Sc

theorem told_any (w0 w : World) (hL : Lw w0 w) (R : Nat → Prop) (c : Cmd) (cs : Array Value) (h : CmdR w R c cs) (ok : CmdOk c) (few : CmdFew c) (hf : fitS c) :
    Calls Tryz.prog 39 #[.agg cs] w (StrsPost w (nameC c :: cmdW c)) := by
  obtain ⟨f1, f2, f3⟩ := fit_kind hf
  by_cases k1 : c.kind = 1 ∨ c.kind = 3 ∨ c.kind = 7 ∨ c.kind = 8
  · have e : cmdW c = c.nums.map Lib.itoa := by simp only [cmdW, if_pos k1]
    rw [e, nameC, if_neg (by omega)]; exact told_n w0 w hL R c cs h ok few k1
  by_cases k2 : c.kind = 2
  · have e : cmdW c = treeW c.tree := by simp only [cmdW, if_neg k1, if_pos k2]
    rw [e, nameC, if_neg (by omega)]; exact told_2 w0 w hL R c cs h ok few k2
  by_cases k9 : c.kind = 9
  · have e : cmdW c = [quote c.text, Lib.itoa (c.nums.getD 0 0), quote c.more] := by simp only [cmdW, if_neg k1, if_neg k2, if_pos k9]
    have hl : c.nums.length = 1 := by
      unfold fitS at hf
      rw [if_neg (by omega), if_neg (by omega), if_pos (by omega)] at hf
      exact hf
    rw [e, nameC, if_neg (by omega)]; exact told_9 w0 w hL R c cs h ok few hl k9
  by_cases k10 : c.kind = 10
  · have e : cmdW c = [quote c.text] := by simp only [cmdW, if_neg k1, if_neg k2, if_neg k9, if_pos k10]
    rw [e, nameC, if_neg (by omega)]; exact told_10 w0 w hL R c cs h ok few k10
  by_cases k11 : c.kind = 11
  · have e : cmdW c = [quote c.text, Lib.itoa (c.nums.getD 0 0)] := by simp only [cmdW, if_neg k1, if_neg k2, if_neg k9, if_neg k10, if_pos k11]
    have hl : c.nums.length = 1 := by
      unfold fitS at hf
      rw [if_neg (by omega), if_neg (by omega), if_pos (by omega)] at hf
      exact hf
    rw [e, nameC, if_neg (by omega)]; exact told_11 w0 w hL R c cs h ok few hl k11
  by_cases k12 : c.kind = 12
  · have e : cmdW c = askW c.ask := by simp only [cmdW, if_neg k1, if_neg k2, if_neg k9, if_neg k10, if_neg k11, if_pos k12]
    rw [e, nameC, if_pos k12]; exact told_12 w0 w hL R c cs h ok few (f3 k12) k12
  · have e : cmdW c = [] := by simp only [cmdW, if_neg k1, if_neg k2, if_neg k9, if_neg k10, if_neg k11, if_neg k12]
    rw [e, nameC, if_neg k12]; exact told_0 w0 w hL R c cs h ok few (by omega)

theorem ba_empty (l : B) : (!(bs l).toList.isEmpty) = decide (l ≠ []) := by
  have : (bs l).toList = l := by rw [ByteArray.toList_eq]
  rw [this]
  cases l <;> simp
def FitPost (w : World) (b : Bool) (e : Ending) (w' : World) : Prop := e = .returned (.bool b) ∧ Turned (fun _ => False) w w'
theorem name_c (k : Int) : nameIn cnames k = [] ↔ ¬ (1 ≤ k ∧ k ≤ 14 ∧ k ≠ 12) := by
  constructor
  · intro h hk
    obtain ⟨p, hp, rfl⟩ := cname_of k hk.1 hk.2.1 hk.2.2
    obtain ⟨-, -, a4, -, a6⟩ := names_fin.1 p hp
    exact a4 (a6.symm.trans h)
  · intro h
    refine nameIn_none cnames k fun p hp e => h ?_
    have := kinds_c p.1 (List.mem_map_of_mem hp)
    have h0 : ∀ p ∈ cnames, p.1 ≠ 0 := by decide
    have := h0 p hp
    omega
theorem name_q (k : Int) : nameIn qnames k = [] ↔ ¬ (1 ≤ k ∧ k ≤ 12) := by
  constructor
  · intro h hk
    obtain ⟨p, hp, rfl⟩ := qname_of k hk.1 hk.2
    obtain ⟨-, -, -, a4, -, a6⟩ := names_fin.2 p hp
    exact a4 (a6.symm.trans h)
  · intro h
    refine nameIn_none qnames k fun p hp e => h ?_
    have h0 : ∀ p ∈ qnames, 1 ≤ p.1 ∧ p.1 ≤ 12 := by decide
    have := h0 p hp
    omega

set_option maxRecDepth 100000 in
set_option maxHeartbeats 8000000 in
theorem fit_38 (w : World) (R : Nat → Prop) (c : Cmd) (cs : Array Value) (h : CmdR w R c cs) (hk : c.kind = 3 ∨ c.kind = 8) :
    Calls Tryz.prog 38 #[.agg cs] w (FitPost w (decide (0 < c.nums.length))) := by
  obtain ⟨a1, k1, a4, k4, a9, k9, rfl, h1, h4, h9⟩ := h
  obtain ⟨kind, nums, text, more, tree, ⟨qk, qa, qb, ql, ids, path⟩⟩ := c
  simp only [] at hk h1 ⊢
  generalize bs text = x2 at *
  generalize bs more = x3 at *
  generalize bs path = x10 at *
  generalize tree.length = n4 at *
  generalize ids.length = n9 at *
  have hd : decide ((0 : Int) < (nums.length : Int)) = decide (0 < nums.length) := by simp
  generalize nums.length = n1 at *
  clear h1 h4 h9
  rcases hk with rfl | rfl
  all_goals
    go_enter Tryz.func38, Tryz.ntmps38
    go_wp2
    go_ret
    exact ⟨by simp, (Turned.refl _ w).new _⟩

set_option maxRecDepth 100000 in
set_option maxHeartbeats 8000000 in
theorem fit_7 (w : World) (R : Nat → Prop) (c : Cmd) (cs : Array Value) (h : CmdR w R c cs) (hk : c.kind = 7 ∨ c.kind = 9 ∨ c.kind = 11) :
    Calls Tryz.prog 38 #[.agg cs] w (FitPost w (decide (c.nums.length = 1))) := by
  obtain ⟨a1, k1, a4, k4, a9, k9, rfl, h1, h4, h9⟩ := h
  obtain ⟨kind, nums, text, more, tree, ⟨qk, qa, qb, ql, ids, path⟩⟩ := c
  simp only [] at hk h1 ⊢
  generalize bs text = x2 at *
  generalize bs more = x3 at *
  generalize bs path = x10 at *
  generalize tree.length = n4 at *
  generalize ids.length = n9 at *
  generalize nums.length = n1 at *
  clear h1 h4 h9
  by_cases hn : n1 = 1
  · have hd := i_eqb (n1 : Int) 1 (by omega)
    rw [decide_eq_true hn]
    clear hn
    rcases hk with rfl | rfl | rfl
    all_goals
      go_enter Tryz.func38, Tryz.ntmps38
      go_wp2
      go_ret
      exact ⟨rfl, (Turned.refl _ w).new _⟩
  · have hd := i_neb (n1 : Int) 1 (by omega)
    rw [decide_eq_false hn]
    clear hn
    rcases hk with rfl | rfl | rfl
    all_goals
      go_enter Tryz.func38, Tryz.ntmps38
      go_wp2
      go_ret
      exact ⟨rfl, (Turned.refl _ w).new _⟩

set_option maxRecDepth 100000 in
set_option maxHeartbeats 8000000 in
theorem fit_1 (w : World) (R : Nat → Prop) (c : Cmd) (cs : Array Value) (h : CmdR w R c cs) (hk : c.kind = 1) :
    Calls Tryz.prog 38 #[.agg cs] w (FitPost w (decide (c.nums.length = 6 ∧ 0 ≤ c.nums.getD 4 0 ∧ c.nums.getD 4 0 < 4294967296))) := by
  obtain ⟨a1, k1, a4, k4, a9, k9, rfl, h1, h4, h9⟩ := h
  obtain ⟨kind, nums, text, more, tree, ⟨qk, qa, qb, ql, ids, path⟩⟩ := c
  simp only [] at hk h1 ⊢
  generalize bs text = x2 at *
  generalize bs more = x3 at *
  generalize bs path = x10 at *
  generalize tree.length = n4 at *
  generalize ids.length = n9 at *
  subst hk
  by_cases hn : nums.length = 6
  · obtain ⟨x, hx⟩ : ∃ x, nums[4]? = some x := ⟨_, List.getElem?_eq_getElem (by omega)⟩
    have hg : nums.getD 4 0 = x := by simp [List.getD, hx]
    obtain ⟨g, o, rfl, hgl, hc⟩ := ints_rd h1 4 x hx
    have hd := i_eqb (nums.length : Int) 6 (by omega)
    rw [hn] at hd ⊢
    rw [hg]
    have hlt := hgl
    clear hx hg h1 h4 h9 hn
    by_cases q1 : 0 ≤ x
    · have d1 : decide ((0 : Int) ≤ x) = true := by simpa using q1
      by_cases q2 : x < 4294967296
      · have d2 : decide (x < 4294967296) = true := by simpa using q2
        have HF : Hid (decide (6 = 6 ∧ 0 ≤ x ∧ x < 4294967296) = true) := hidS (decide_eq_true ⟨rfl, q1, q2⟩)
        clear q1 q2
        rw [HF.out]
        go_enter Tryz.func38, Tryz.ntmps38
        go_wp2
        go_ret
        exact ⟨rfl, (Turned.refl _ w).new _⟩
      · have d2 : decide (x < 4294967296) = false := by simpa using q2
        have HF : Hid (decide (6 = 6 ∧ 0 ≤ x ∧ x < 4294967296) = false) := hidS (decide_eq_false fun q => q2 q.2.2)
        clear q1 q2
        rw [HF.out]
        go_enter Tryz.func38, Tryz.ntmps38
        go_wp2
        go_ret
        exact ⟨rfl, (Turned.refl _ w).new _⟩
    · have d1 : decide ((0 : Int) ≤ x) = false := by simpa using q1
      have HF : Hid (decide (6 = 6 ∧ 0 ≤ x ∧ x < 4294967296) = false) := hidS (decide_eq_false fun q => q1 q.2.1)
      clear q1
      rw [HF.out]
      go_enter Tryz.func38, Tryz.ntmps38
      go_wp2
      go_ret
      exact ⟨rfl, (Turned.refl _ w).new _⟩
  · have hd := i_neb (nums.length : Int) 6 (by omega)
    have HF : Hid (decide (nums.length = 6 ∧ 0 ≤ nums.getD 4 0 ∧ nums.getD 4 0 < 4294967296) = false) := hidS (decide_eq_false fun q => hn q.1)
    rw [HF.out]
    generalize nums.length = n1 at *
    clear h1 h4 h9 hn
    go_enter Tryz.func38, Tryz.ntmps38
    go_wp2
    go_ret
    exact ⟨rfl, (Turned.refl _ w).new _⟩

set_option maxRecDepth 100000 in
set_option maxHeartbeats 8000000 in
theorem fit_12 (w : World) (R : Nat → Prop) (c : Cmd) (cs : Array Value) (h : CmdR w R c cs) (hk : c.kind = 12) :
    Calls Tryz.prog 38 #[.agg cs] w (FitPost w (decide (1 ≤ c.ask.kind ∧ c.ask.kind ≤ 12))) := by
  obtain ⟨a1, k1, a4, k4, a9, k9, rfl, h1, h4, h9⟩ := h
  obtain ⟨kind, nums, text, more, tree, ⟨qk, qa, qb, ql, ids, path⟩⟩ := c
  simp only [] at hk h1 ⊢
  generalize bs text = x2 at *
  generalize bs more = x3 at *
  generalize bs path = x10 at *
  generalize tree.length = n4 at *
  generalize ids.length = n9 at *
  subst hk
  generalize nums.length = n1 at *
  clear h1 h4 h9
  obtain ⟨nm, hnm⟩ : ∃ nm, nm = bs (nameIn qnames qk) := ⟨_, rfl⟩
  have HF : Hid (decide (1 ≤ qk ∧ qk ≤ 12) = !nm.toList.isEmpty) := hidS (by
    rw [hnm, ba_empty]
    exact decide_eq_decide.2 ⟨fun h e => (name_q qk).1 e h, fun h => Classical.byContradiction fun q => h ((name_q qk).2 q)⟩)
  have HK : Hid (∀ W n, (∀ k, (Instr.lookup 97 (.map (some n)) (.int .i64 k) false).run Tryz.prog W = .ok (.agg #[.string (bs (nameIn qnames k))]) W) → (Instr.lookup 97 (.map (some n)) (.int .i64 qk) false).run Tryz.prog W = .ok (.agg #[.string nm]) W) := hidS fun W n q => by rw [hnm]; exact q qk
  clear hnm
  go_enter Tryz.func38, Tryz.ntmps38
  go_wp2
  go_region_with (first
    | (go_at_call 58; (with_reducible refine (questions_at _ (w.heap.size + 1) (by simp)).mono ?_); rintro e w2 ⟨rfl, lk, ht⟩
       have hb2 : w2.heap[w.heap.size]? = some (.cells #[.int .i64 12, .slice a1 n1 k1, .string x2, .string x3, .slice a4 n4 k4, .int .i64 qk, .int .i64 qa, .int .i64 qb, .int .i64 ql, .slice a9 n9 k9, .string x10] 39 (0, 0)) := box_at ht
       have c0 := cell_of hb2 5 _ rfl
       simp only [List.getElem_toArray, List.getElem_cons_zero, List.getElem_cons_succ] at c0
       have l2 := lt_of_block hb2
       have T2 : Hid (Turned (fun _ => False) w w2) := hidS (((Turned.refl _ w).new _).draw.trans ht fun _ _ q => q)
       have lkk := HK.out w2 _ lk
       have fl := fld107 nm w2
       clear lk ht hb2))
  all_goals go_wp2
  all_goals go_ret
  all_goals exact ⟨congrArg (fun b => Ending.returned (Value.bool b)) HF.out.symm, T2.out⟩

set_option maxRecDepth 100000 in
set_option maxHeartbeats 8000000 in
theorem fit_0 (w : World) (R : Nat → Prop) (c : Cmd) (cs : Array Value) (h : CmdR w R c cs) (hk : c.kind ≠ 1 ∧ c.kind ≠ 3 ∧ c.kind ≠ 8 ∧ c.kind ≠ 7 ∧ c.kind ≠ 9 ∧ c.kind ≠ 11 ∧ c.kind ≠ 12) :
    Calls Tryz.prog 38 #[.agg cs] w (FitPost w (decide (1 ≤ c.kind ∧ c.kind ≤ 14))) := by
  obtain ⟨a1, k1, a4, k4, a9, k9, rfl, h1, h4, h9⟩ := h
  obtain ⟨kind, nums, text, more, tree, ⟨qk, qa, qb, ql, ids, path⟩⟩ := c
  simp only [] at hk h1 ⊢
  generalize bs text = x2 at *
  generalize bs more = x3 at *
  generalize bs path = x10 at *
  generalize tree.length = n4 at *
  generalize ids.length = n9 at *
  generalize nums.length = n1 at *
  clear h1 h4 h9
  obtain ⟨nm, hnm⟩ : ∃ nm, nm = bs (nameIn cnames kind) := ⟨_, rfl⟩
  have HF : Hid (decide (1 ≤ kind ∧ kind ≤ 14) = !nm.toList.isEmpty) := hidS (by
    rw [hnm, ba_empty]
    exact decide_eq_decide.2 ⟨fun h e => (name_c kind).1 e (by omega), fun h => by have := Classical.byContradiction fun q => h ((name_c kind).2 q); omega⟩)
  have HK : Hid (∀ W n, (∀ k, (Instr.lookup 97 (.map (some n)) (.int .i64 k) false).run Tryz.prog W = .ok (.agg #[.string (bs (nameIn cnames k))]) W) → (Instr.lookup 97 (.map (some n)) (.int .i64 kind) false).run Tryz.prog W = .ok (.agg #[.string nm]) W) := hidS fun W n q => by rw [hnm]; exact q kind
  clear hnm
  obtain ⟨e1, e3, e8, e7, e9, e11, e12⟩ := hk
  have f1 := i_neb kind 1 e1; have f3 := i_neb kind 3 e3; have f8 := i_neb kind 8 e8; have f7 := i_neb kind 7 e7; have f9 := i_neb kind 9 e9; have f11 := i_neb kind 11 e11; have f12 := i_neb kind 12 e12
  clear e1 e3 e8 e7 e9 e11 e12
  go_enter Tryz.func38, Tryz.ntmps38
  go_wp2
  go_region_with (first
    | (go_at_call 51; (with_reducible refine (names_at _ (w.heap.size + 1) (by simp)).mono ?_); rintro e w2 ⟨rfl, lk, ht⟩
       have hb2 : w2.heap[w.heap.size]? = some (.cells #[.int .i64 kind, .slice a1 n1 k1, .string x2, .string x3, .slice a4 n4 k4, .int .i64 qk, .int .i64 qa, .int .i64 qb, .int .i64 ql, .slice a9 n9 k9, .string x10] 39 (0, 0)) := box_at ht
       have c0 := cell_of hb2 0 _ rfl
       simp only [List.getElem_toArray, List.getElem_cons_zero, List.getElem_cons_succ] at c0
       have l2 := lt_of_block hb2
       have T2 : Hid (Turned (fun _ => False) w w2) := hidS (((Turned.refl _ w).new _).draw.trans ht fun _ _ q => q)
       have lkk := HK.out w2 _ lk
       have fl := fld107 nm w2
       clear lk ht hb2))
  all_goals go_wp2
  all_goals go_ret
  all_goals exact ⟨congrArg (fun b => Ending.returned (Value.bool b)) HF.out.symm, T2.out⟩

theorem fit_any (w : World) (R : Nat → Prop) (c : Cmd) (cs : Array Value) (h : CmdR w R c cs) : Calls Tryz.prog 38 #[.agg cs] w (FitPost w (decide (fitS c))) := by
  unfold fitS
  by_cases k1 : c.kind = 1
  · simp only [if_pos k1]; exact fit_1 w R c cs h k1
  by_cases k3 : c.kind = 3 ∨ c.kind = 8
  · simp only [if_neg k1, if_pos k3]; exact fit_38 w R c cs h k3
  by_cases k7 : c.kind = 7 ∨ c.kind = 9 ∨ c.kind = 11
  · simp only [if_neg k1, if_neg k3, if_pos k7]; exact fit_7 w R c cs h k7
  by_cases k12 : c.kind = 12
  · simp only [if_neg k1, if_neg k3, if_neg k7, if_pos k12]; exact fit_12 w R c cs h k12
  · simp only [if_neg k1, if_neg k3, if_neg k7, if_neg k12]; exact fit_0 w R c cs h (by omega)

end Go.Proofs.YteblabpplaaddaaGreatDoor

set_option linter.unusedVariables false
set_option linter.unusedSimpArgs false
namespace Go.Proofs.YteblabpplaaddaaGreatDoor
open Go.RowKit Go.Mine Go.Mine.Sc

set_option maxRecDepth 100000 in
set_option maxHeartbeats 4000000 in
theorem unfit_any (w : World) (R : Nat → Prop) (c : Cmd) (cs : Array Value) (h : CmdR w R c cs) : Calls Tryz.prog 37 #[.agg cs] w fun e w' => e = .returned (.bool (!decide (fitS c))) ∧ Turned (fun _ => False) w w' := by
  have H : Hid (∀ W, Turned (fun _ => False) w W → Calls Tryz.prog 38 #[.agg cs] W (FitPost W (decide (fitS c)))) := fun W t => fit_any W R c cs (h.turned t fun _ _ q => q)
  have hs : cs.size = 11 := h.size
  have h1 := h.one
  obtain ⟨a1, k1, a4, k4, a9, k9, rfl, -, -, -⟩ := h
  generalize decide (fitS c) = b at *
  clear hs h1
  go_enter Tryz.func37, Tryz.ntmps37
  go_wp2_with (go_at_call 38; (with_reducible refine (H.out _ (Turned.alloc _ _ _)).mono ?_); rintro e w2 ⟨rfl, ht⟩; have T2 : Hid (Turned (fun _ => False) w w2) := (Turned.alloc _ _ _).trans ht fun _ _ q => q; clear ht)
  go_ret
  exact ⟨rfl, T2.out⟩

def IxR (w : World) (l : List Cmd) (g : Nat) (v : Value) (wr : World) : Prop := ∃ i : Nat, i + g = l.length ∧ v = .int .i64 (i : Nat) ∧ (∀ c ∈ l.take i, fitS c) ∧ Turned (fun _ => False) w wr
def IxPost (w : World) (l : List Cmd) (e : Ending) (w' : World) : Prop := ∃ r : Int, e = .returned (.int .i64 r) ∧ (decide (0 ≤ r) = decide (∃ c ∈ l, ¬ fitS c)) ∧ Turned (fun _ => False) w w'

set_option maxRecDepth 100000 in
set_option maxHeartbeats 4000000 in
theorem index_unfit (w : World) (R : Nat → Prop) (v : Value) (l : List Cmd) (h : CmdsR w R v l) (hl : l.length ≤ 4611686018427387904) : Calls Tryz.prog 64 #[v, .func (.func 37) #[] #[]] w (IxPost w l) := by
  obtain ⟨a, cap, rfl, -, -⟩ := h.value
  have H : Hid (CmdsR w R (.slice a l.length cap) l ∧ l.length ≤ 4611686018427387904) := ⟨h, hl⟩
  obtain ⟨n, hn⟩ : ∃ n, n = l.length := ⟨_, rfl⟩
  have HN : Hid (n = l.length) := hn
  rw [← hn]
  have B0 : Hid (IxR w l n (.int .i64 0) w) := ⟨0, by omega, rfl, by simp, Turned.refl _ _⟩
  clear h hl hn
  go_enter Tryz.func64, Tryz.ntmps64
  go_wp2
  go_loopg [8] n (fun g v wr => IxR w l g v wr)
  case atStart => exact B0.out
  case round =>
    obtain ⟨i, hig, rfl, hfit, ht⟩ := hrel
    have G : Hid (i + gk = l.length ∧ (∀ c ∈ l.take i, fitS c) ∧ Turned (fun _ => False) w wr) := ⟨hig, hfit, ht⟩
    clear hig hfit ht B0
    by_cases hlt : i < n
    · obtain ⟨c, hc⟩ : ∃ c, l[i]? = some c := ⟨_, List.getElem?_eq_getElem (by have := HN.out; omega)⟩
      obtain ⟨g1, o1, cs, rfl, l1, v1, e1⟩ := (H.out.1.turned G.out.2.2 fun _ _ q => q).elem hc
      have HC : Hid (l[i]? = some c) := hc
      have hf := unfit_any wr _ c cs v1
      obtain ⟨x1, y1, x4, y4, x9, y9, rfl, -, -, -⟩ := v1
      have hd1 : decide ((i : Int) < (n : Int)) = true := by simp; omega
      have hd2 : decide (i < n) = true := by simp; omega
      have HLT : Hid (i < n ∧ n ≤ 4611686018427387904) := ⟨hlt, by have := HN.out; have := H.out.2; omega⟩
      have HW : Hid (wrap64 ((i : Int) + 1) = ((i + 1 : Nat) : Int)) := hidS (w64_in _ (by have := HLT.out; omega))
      have p0 := e1 0 (by decide); have p1 := e1 1 (by decide); have p2 := e1 2 (by decide); have p3 := e1 3 (by decide); have p4 := e1 4 (by decide); have p5 := e1 5 (by decide); have p6 := e1 6 (by decide); have p7 := e1 7 (by decide); have p8 := e1 8 (by decide); have p9 := e1 9 (by decide); have p10 := e1 10 (by decide); simp only [List.getElem?_toArray, List.getElem?_cons_zero, List.getElem?_cons_succ, Nat.add_zero] at p0 p1 p2 p3 p4 p5 p6 p7 p8 p9 p10
      clear e1 hc
      by_cases hs : fitS c
      · rw [decide_eq_true hs] at hf
        have HS : Hid (fitS c) := hs
        clear hs
        go_wp2_with (go_at_call 37; (with_reducible refine hf.mono ?_); rintro e w2 ⟨rfl, ht⟩; have T2 : Hid (Turned (fun _ => False) w w2) := G.out.2.2.trans ht fun _ _ q => q; clear ht hf)
        go_roundg (gk - 1)
        case measure => have := G.out; have := HLT.out; have := HN.out; omega
        case rel =>
          refine ⟨i + 1, by have := G.out; have := HLT.out; have := HN.out; omega, by rw [HW.out], ?_, T2.out⟩
          intro d hd
          rw [List.take_add_one, HC.out] at hd
          simp only [Option.toList_some, List.mem_append, List.mem_singleton] at hd
          rcases hd with hd | rfl
          · exact G.out.2.1 d hd
          · exact HS.out
      · rw [decide_eq_false hs] at hf
        have HS : Hid (¬ fitS c) := hs
        clear hs
        go_wp2_with (go_at_call 37; (with_reducible refine hf.mono ?_); rintro e w2 ⟨rfl, ht⟩; have T2 : Hid (Turned (fun _ => False) w w2) := G.out.2.2.trans ht fun _ _ q => q; clear ht hf)
        go_ret
        refine ⟨_, rfl, ?_, T2.out⟩
        rw [decide_eq_true (by omega : (0 : Int) ≤ (i : Int)), decide_eq_true ⟨c, List.mem_of_getElem? HC.out, HS.out⟩]
    · have hd1 : decide ((i : Int) < (n : Int)) = false := by simp; omega
      have hd2 : decide (i < n) = false := by simp; omega
      have HE : Hid (l.take i = l) := hidS (List.take_of_length_le (by have := HN.out; omega))
      clear hlt
      go_wp2
      go_ret
      refine ⟨_, rfl, ?_, G.out.2.2⟩
      rw [decide_eq_false (by decide), decide_eq_false]
      rintro ⟨c, hc, hn⟩
      exact hn (G.out.2.1 c (by rw [HE.out]; exact hc))

set_option maxRecDepth 100000 in
set_option maxHeartbeats 4000000 in
theorem contains_unfit (w : World) (R : Nat → Prop) (v : Value) (l : List Cmd) (h : CmdsR w R v l) (hl : l.length ≤ 4611686018427387904) : Calls Tryz.prog 36 #[v, .func (.func 37) #[] #[]] w fun e w' => e = .returned (.bool (decide (∃ c ∈ l, ¬ fitS c))) ∧ Turned (fun _ => False) w w' := by
  have h64 : Calls Tryz.prog 64 #[v, .func (.func 37) #[] #[]] w fun e w' => ∃ r : Int, e = .returned (.int .i64 r) ∧ (decide (0 ≤ r) = decide (∃ c ∈ l, ¬ fitS c)) ∧ Turned (fun _ => False) w w' := index_unfit w R v l h hl
  generalize decide (∃ c ∈ l, ¬ fitS c) = b at *
  obtain ⟨a, cap, rfl, -, -⟩ := h.value
  clear h hl
  go_enter Tryz.func36, Tryz.ntmps36
  go_wp2_with (go_at_call 64; (with_reducible refine h64.mono ?_); rintro e w2 ⟨r, rfl, hr, ht⟩; have T2 : Hid (decide (0 ≤ r) = b ∧ Turned (fun _ => False) w w2) := ⟨hr, ht⟩; clear ht hr h64)
  go_ret
  exact ⟨congrArg (fun b => Ending.returned (Value.bool b)) T2.out.1, T2.out.2⟩
end Go.Proofs.YteblabpplaaddaaGreatDoor
