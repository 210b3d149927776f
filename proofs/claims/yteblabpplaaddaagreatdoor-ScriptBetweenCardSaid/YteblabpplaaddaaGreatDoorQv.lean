/- A line's question: the walk of question, kind by kind (printed by gen_qu.py). -/
import Derived.Test.YteblabpplaaddaaGreatDoorQu
set_option linter.unusedVariables false
set_option linter.unusedSimpArgs false
namespace Go.Proofs.YteblabpplaaddaaGreatDoor
open Go.RowKit Go.Mine Go.Mine.Sc

set_option maxRecDepth 100000 in
set_option maxHeartbeats 1000000 in
theorem ques_nn0 (k : Int) (hk : k = 1 ∨ k = 3 ∨ k = 4) (w0 w : World) (p : Nat) (s : B) (h : At w0 w p s) (h1 : pNum s = none) :
    Calls Tryz.prog 57 #[pt p, .int .i64 k] w (QuesPost w0 w p (none)) := by
  have N1 : Hid (∀ W, Turned (fun _ => False) w W → Calls Tryz.prog 52 #[pt p] W fun e w' => e = .panicked [wrongE] ∧ Turned (· = p) W w') := fun W t => num_none (h.turned t) h1
  have HP : Hid (p < w.heap.size) := lt_of_block h.line
  clear h h1
  rcases hk with rfl | rfl | rfl
  · go_enter Tryz.func57, Tryz.ntmps57
    go_wp2_with (first
      | (go_at_call 52; (with_reducible refine (N1.out _ (((Turned.refl (fun _ => False) w).new _).new _)).mono ?_); rintro e w1 ⟨rfl, ht⟩))
    exact ⟨rfl, rfl, turned_boxes ht⟩
  · go_enter Tryz.func57, Tryz.ntmps57
    go_wp2_with (first
      | (go_at_call 52; (with_reducible refine (N1.out _ (((Turned.refl (fun _ => False) w).new _).new _)).mono ?_); rintro e w1 ⟨rfl, ht⟩))
    exact ⟨rfl, rfl, turned_boxes ht⟩
  · go_enter Tryz.func57, Tryz.ntmps57
    go_wp2_with (first
      | (go_at_call 52; (with_reducible refine (N1.out _ (((Turned.refl (fun _ => False) w).new _).new _)).mono ?_); rintro e w1 ⟨rfl, ht⟩))
    exact ⟨rfl, rfl, turned_boxes ht⟩

set_option maxRecDepth 100000 in
set_option maxHeartbeats 1000000 in
theorem ques_nn1 (k : Int) (hk : k = 1 ∨ k = 3 ∨ k = 4) (w0 w : World) (p : Nat) (s : B) (h : At w0 w p s) (v1 : Int) (r1 : B) (h1 : pNum s = some (v1, r1)) (h2 : pNum r1 = none) :
    Calls Tryz.prog 57 #[pt p, .int .i64 k] w (QuesPost w0 w p (none)) := by
  have N1 : Hid (∀ W, Turned (fun _ => False) w W → Calls Tryz.prog 52 #[pt p] W fun e w' => e = .returned (.int .i64 v1) ∧ At w0 w' p r1 ∧ Turned (· = p) W w') := fun W t => num_some (h.turned t) h1
  have N2 : Hid (∀ W, At w0 W p r1 → Calls Tryz.prog 52 #[pt p] W fun e w' => e = .panicked [wrongE] ∧ Turned (· = p) W w') := fun W t => num_none t h2
  have HP : Hid (p < w.heap.size) := lt_of_block h.line
  clear h h1 h2
  rcases hk with rfl | rfl | rfl
  · go_enter Tryz.func57, Tryz.ntmps57
    go_wp2_with (first
      | (go_at_call 52; (with_reducible refine (N1.out _ (((Turned.refl (fun _ => False) w).new _).new _)).mono ?_); rintro e w1 ⟨rfl, ha, ht⟩
         have B1 : Hid (QB w w1 _ ∧ Turned (· = p) w w1 ∧ At w0 w1 p r1) := ⟨QB.first ht HP.out, turned_boxes ht, ha⟩
         have q2 := N2.out w1 ha
         clear ha ht)
      | (go_at_call 52; (with_reducible refine q2.mono ?_); rintro e w2 ⟨rfl, ht⟩))
    exact ⟨rfl, rfl, B1.out.2.1.trans ht fun _ _ q => q⟩
  · go_enter Tryz.func57, Tryz.ntmps57
    go_wp2_with (first
      | (go_at_call 52; (with_reducible refine (N1.out _ (((Turned.refl (fun _ => False) w).new _).new _)).mono ?_); rintro e w1 ⟨rfl, ha, ht⟩
         have B1 : Hid (QB w w1 _ ∧ Turned (· = p) w w1 ∧ At w0 w1 p r1) := ⟨QB.first ht HP.out, turned_boxes ht, ha⟩
         have q2 := N2.out w1 ha
         clear ha ht)
      | (go_at_call 52; (with_reducible refine q2.mono ?_); rintro e w2 ⟨rfl, ht⟩))
    exact ⟨rfl, rfl, B1.out.2.1.trans ht fun _ _ q => q⟩
  · go_enter Tryz.func57, Tryz.ntmps57
    go_wp2_with (first
      | (go_at_call 52; (with_reducible refine (N1.out _ (((Turned.refl (fun _ => False) w).new _).new _)).mono ?_); rintro e w1 ⟨rfl, ha, ht⟩
         have B1 : Hid (QB w w1 _ ∧ Turned (· = p) w w1 ∧ At w0 w1 p r1) := ⟨QB.first ht HP.out, turned_boxes ht, ha⟩
         have q2 := N2.out w1 ha
         clear ha ht)
      | (go_at_call 52; (with_reducible refine q2.mono ?_); rintro e w2 ⟨rfl, ht⟩))
    exact ⟨rfl, rfl, B1.out.2.1.trans ht fun _ _ q => q⟩

set_option maxRecDepth 100000 in
set_option maxHeartbeats 1000000 in
theorem ques_nn2 (k : Int) (hk : k = 1 ∨ k = 3 ∨ k = 4) (w0 w : World) (p : Nat) (s : B) (h : At w0 w p s) (v1 : Int) (r1 : B) (h1 : pNum s = some (v1, r1)) (v2 : Int) (r2 : B) (h2 : pNum r1 = some (v2, r2)) :
    Calls Tryz.prog 57 #[pt p, .int .i64 k] w (QuesPost w0 w p (some ({ kind := k, a := v1, b := v2 }, r2))) := by
  have N1 : Hid (∀ W, Turned (fun _ => False) w W → Calls Tryz.prog 52 #[pt p] W fun e w' => e = .returned (.int .i64 v1) ∧ At w0 w' p r1 ∧ Turned (· = p) W w') := fun W t => num_some (h.turned t) h1
  have N2 : Hid (∀ W, At w0 W p r1 → Calls Tryz.prog 52 #[pt p] W fun e w' => e = .returned (.int .i64 v2) ∧ At w0 w' p r2 ∧ Turned (· = p) W w') := fun W t => num_some t h2
  have HP : Hid (p < w.heap.size) := lt_of_block h.line
  clear h h1 h2
  rcases hk with rfl | rfl | rfl
  · go_enter Tryz.func57, Tryz.ntmps57
    go_wp2_with (first
      | (go_at_call 52; (with_reducible refine (N1.out _ (((Turned.refl (fun _ => False) w).new _).new _)).mono ?_); rintro e w1 ⟨rfl, ha, ht⟩
         have B1 : Hid (QB w w1 _ ∧ Turned (· = p) w w1 ∧ At w0 w1 p r1) := ⟨QB.first ht HP.out, turned_boxes ht, ha⟩
         have q2 := N2.out w1 ha
         clear ha ht)
      | (go_at_call 52; (with_reducible refine q2.mono ?_); rintro e w2 ⟨rfl, ha, ht⟩
         have B2 : Hid (QB w w2 _ ∧ Turned (· = p) w w2 ∧ At w0 w2 p r2) := ⟨B1.out.1.next ht HP.out, B1.out.2.1.trans ht fun _ _ q => q, ha⟩
         have qb := B2.out.1; have c0 := cell_of qb.2 0 _ rfl; have c1 := cell_of qb.2 1 _ rfl; have c2 := cell_of qb.2 2 _ rfl; have c3 := cell_of qb.2 3 _ rfl; have c4 := cell_of qb.2 4 _ rfl; have c5 := cell_of qb.2 5 _ rfl; have e0 := free_of qb.2 0; have e1 := free_of qb.2 1; have e2 := free_of qb.2 2; have e3 := free_of qb.2 3; have e4 := free_of qb.2 4; have e5 := free_of qb.2 5; have d0 := cell_of qb.1 0 _ rfl; have d1 := cell_of qb.1 1 _ rfl; have d2 := cell_of qb.1 2 _ rfl; have d3 := cell_of qb.1 3 _ rfl; have d4 := cell_of qb.1 4 _ rfl; have d5 := cell_of qb.1 5 _ rfl; have g0 := free_of qb.1 0; have g1 := free_of qb.1 1; have g2 := free_of qb.1 2; have g3 := free_of qb.1 3; have g4 := free_of qb.1 4; have g5 := free_of qb.1 5; have m0 := lt_of_block qb.1; have m1 := lt_of_block qb.2; clear qb
         clear ha ht q2))
    obtain ⟨z1, z2⟩ := six_put ((w2.setCell ⟨w.heap.size + 1, 1, none⟩ (.int .i64 v1)).setCell ⟨w.heap.size + 1, 2, none⟩ (.int .i64 v2)) w.heap.size _ _ _ _ _ _ (.int .i64 1) (.int .i64 v1) (.int .i64 v2) (.int .i64 0) (.slice none 0 0) (.string ⟨#[]⟩) ((Go.Mine.heap_setCell_ne _ (by simp)).trans ((Go.Mine.heap_setCell_ne _ (by simp)).trans B2.out.1.1))
    refine ques_ret rfl z1 ?_
    have ts : Turned (fun x => x = w.heap.size ∨ x = w.heap.size + 1) w2 _ := (((Turned.refl (· = w.heap.size + 1) w2).set (p := ⟨w.heap.size + 1, 1, none⟩) rfl (.int .i64 v1)).set (p := ⟨w.heap.size + 1, 2, none⟩) rfl (.int .i64 v2)).comp z2 fun b hb q => q.symm
    exact ⟨⟨none, 0, rfl, Sl.nil _ _ _ _⟩, B2.out.2.2.other ts fun b q => by have := B2.out.2.2.low; have := HP.out; omega, B2.out.2.1.comp ts fun b hb q => q.elim id fun q => by omega⟩
  · go_enter Tryz.func57, Tryz.ntmps57
    go_wp2_with (first
      | (go_at_call 52; (with_reducible refine (N1.out _ (((Turned.refl (fun _ => False) w).new _).new _)).mono ?_); rintro e w1 ⟨rfl, ha, ht⟩
         have B1 : Hid (QB w w1 _ ∧ Turned (· = p) w w1 ∧ At w0 w1 p r1) := ⟨QB.first ht HP.out, turned_boxes ht, ha⟩
         have q2 := N2.out w1 ha
         clear ha ht)
      | (go_at_call 52; (with_reducible refine q2.mono ?_); rintro e w2 ⟨rfl, ha, ht⟩
         have B2 : Hid (QB w w2 _ ∧ Turned (· = p) w w2 ∧ At w0 w2 p r2) := ⟨B1.out.1.next ht HP.out, B1.out.2.1.trans ht fun _ _ q => q, ha⟩
         have qb := B2.out.1; have c0 := cell_of qb.2 0 _ rfl; have c1 := cell_of qb.2 1 _ rfl; have c2 := cell_of qb.2 2 _ rfl; have c3 := cell_of qb.2 3 _ rfl; have c4 := cell_of qb.2 4 _ rfl; have c5 := cell_of qb.2 5 _ rfl; have e0 := free_of qb.2 0; have e1 := free_of qb.2 1; have e2 := free_of qb.2 2; have e3 := free_of qb.2 3; have e4 := free_of qb.2 4; have e5 := free_of qb.2 5; have d0 := cell_of qb.1 0 _ rfl; have d1 := cell_of qb.1 1 _ rfl; have d2 := cell_of qb.1 2 _ rfl; have d3 := cell_of qb.1 3 _ rfl; have d4 := cell_of qb.1 4 _ rfl; have d5 := cell_of qb.1 5 _ rfl; have g0 := free_of qb.1 0; have g1 := free_of qb.1 1; have g2 := free_of qb.1 2; have g3 := free_of qb.1 3; have g4 := free_of qb.1 4; have g5 := free_of qb.1 5; have m0 := lt_of_block qb.1; have m1 := lt_of_block qb.2; clear qb
         clear ha ht q2))
    obtain ⟨z1, z2⟩ := six_put ((w2.setCell ⟨w.heap.size + 1, 1, none⟩ (.int .i64 v1)).setCell ⟨w.heap.size + 1, 2, none⟩ (.int .i64 v2)) w.heap.size _ _ _ _ _ _ (.int .i64 3) (.int .i64 v1) (.int .i64 v2) (.int .i64 0) (.slice none 0 0) (.string ⟨#[]⟩) ((Go.Mine.heap_setCell_ne _ (by simp)).trans ((Go.Mine.heap_setCell_ne _ (by simp)).trans B2.out.1.1))
    refine ques_ret rfl z1 ?_
    have ts : Turned (fun x => x = w.heap.size ∨ x = w.heap.size + 1) w2 _ := (((Turned.refl (· = w.heap.size + 1) w2).set (p := ⟨w.heap.size + 1, 1, none⟩) rfl (.int .i64 v1)).set (p := ⟨w.heap.size + 1, 2, none⟩) rfl (.int .i64 v2)).comp z2 fun b hb q => q.symm
    exact ⟨⟨none, 0, rfl, Sl.nil _ _ _ _⟩, B2.out.2.2.other ts fun b q => by have := B2.out.2.2.low; have := HP.out; omega, B2.out.2.1.comp ts fun b hb q => q.elim id fun q => by omega⟩
  · go_enter Tryz.func57, Tryz.ntmps57
    go_wp2_with (first
      | (go_at_call 52; (with_reducible refine (N1.out _ (((Turned.refl (fun _ => False) w).new _).new _)).mono ?_); rintro e w1 ⟨rfl, ha, ht⟩
         have B1 : Hid (QB w w1 _ ∧ Turned (· = p) w w1 ∧ At w0 w1 p r1) := ⟨QB.first ht HP.out, turned_boxes ht, ha⟩
         have q2 := N2.out w1 ha
         clear ha ht)
      | (go_at_call 52; (with_reducible refine q2.mono ?_); rintro e w2 ⟨rfl, ha, ht⟩
         have B2 : Hid (QB w w2 _ ∧ Turned (· = p) w w2 ∧ At w0 w2 p r2) := ⟨B1.out.1.next ht HP.out, B1.out.2.1.trans ht fun _ _ q => q, ha⟩
         have qb := B2.out.1; have c0 := cell_of qb.2 0 _ rfl; have c1 := cell_of qb.2 1 _ rfl; have c2 := cell_of qb.2 2 _ rfl; have c3 := cell_of qb.2 3 _ rfl; have c4 := cell_of qb.2 4 _ rfl; have c5 := cell_of qb.2 5 _ rfl; have e0 := free_of qb.2 0; have e1 := free_of qb.2 1; have e2 := free_of qb.2 2; have e3 := free_of qb.2 3; have e4 := free_of qb.2 4; have e5 := free_of qb.2 5; have d0 := cell_of qb.1 0 _ rfl; have d1 := cell_of qb.1 1 _ rfl; have d2 := cell_of qb.1 2 _ rfl; have d3 := cell_of qb.1 3 _ rfl; have d4 := cell_of qb.1 4 _ rfl; have d5 := cell_of qb.1 5 _ rfl; have g0 := free_of qb.1 0; have g1 := free_of qb.1 1; have g2 := free_of qb.1 2; have g3 := free_of qb.1 3; have g4 := free_of qb.1 4; have g5 := free_of qb.1 5; have m0 := lt_of_block qb.1; have m1 := lt_of_block qb.2; clear qb
         clear ha ht q2))
    obtain ⟨z1, z2⟩ := six_put ((w2.setCell ⟨w.heap.size + 1, 1, none⟩ (.int .i64 v1)).setCell ⟨w.heap.size + 1, 2, none⟩ (.int .i64 v2)) w.heap.size _ _ _ _ _ _ (.int .i64 4) (.int .i64 v1) (.int .i64 v2) (.int .i64 0) (.slice none 0 0) (.string ⟨#[]⟩) ((Go.Mine.heap_setCell_ne _ (by simp)).trans ((Go.Mine.heap_setCell_ne _ (by simp)).trans B2.out.1.1))
    refine ques_ret rfl z1 ?_
    have ts : Turned (fun x => x = w.heap.size ∨ x = w.heap.size + 1) w2 _ := (((Turned.refl (· = w.heap.size + 1) w2).set (p := ⟨w.heap.size + 1, 1, none⟩) rfl (.int .i64 v1)).set (p := ⟨w.heap.size + 1, 2, none⟩) rfl (.int .i64 v2)).comp z2 fun b hb q => q.symm
    exact ⟨⟨none, 0, rfl, Sl.nil _ _ _ _⟩, B2.out.2.2.other ts fun b q => by have := B2.out.2.2.low; have := HP.out; omega, B2.out.2.1.comp ts fun b hb q => q.elim id fun q => by omega⟩

set_option maxRecDepth 100000 in
set_option maxHeartbeats 1000000 in
theorem ques_s0 (k : Int) (hk : k = 2 ∨ k = 5 ∨ k = 6) (w0 w : World) (p : Nat) (s : B) (h : At w0 w p s) (h1 : pNums s = none) :
    Calls Tryz.prog 57 #[pt p, .int .i64 k] w (QuesPost w0 w p (none)) := by
  have N1 : Hid (∀ W, Turned (fun _ => False) w W → Calls Tryz.prog 56 #[pt p] W fun e w' => e = .panicked [wrongE] ∧ Turned (· = p) W w') := fun W t => nums_none (h.turned t) h1
  have HP : Hid (p < w.heap.size) := lt_of_block h.line
  clear h h1
  rcases hk with rfl | rfl | rfl
  · go_enter Tryz.func57, Tryz.ntmps57
    go_wp2_with (first
      | (go_at_call 56; (with_reducible refine (N1.out _ (((Turned.refl (fun _ => False) w).new _).new _)).mono ?_); rintro e w1 ⟨rfl, ht⟩))
    exact ⟨rfl, rfl, turned_boxes ht⟩
  · go_enter Tryz.func57, Tryz.ntmps57
    go_wp2_with (first
      | (go_at_call 56; (with_reducible refine (N1.out _ (((Turned.refl (fun _ => False) w).new _).new _)).mono ?_); rintro e w1 ⟨rfl, ht⟩))
    exact ⟨rfl, rfl, turned_boxes ht⟩
  · go_enter Tryz.func57, Tryz.ntmps57
    go_wp2_with (first
      | (go_at_call 56; (with_reducible refine (N1.out _ (((Turned.refl (fun _ => False) w).new _).new _)).mono ?_); rintro e w1 ⟨rfl, ht⟩))
    exact ⟨rfl, rfl, turned_boxes ht⟩

set_option maxRecDepth 100000 in
set_option maxHeartbeats 1000000 in
theorem ques_s1 (k : Int) (hk : k = 2 ∨ k = 5 ∨ k = 6) (w0 w : World) (p : Nat) (s : B) (h : At w0 w p s) (v1 : List Int) (h1 : pNums s = some v1) :
    Calls Tryz.prog 57 #[pt p, .int .i64 k] w (QuesPost w0 w p (some ({ kind := k, ids := v1 }, []))) := by
  have N1 : Hid (∀ W, Turned (fun _ => False) w W → Calls Tryz.prog 56 #[pt p] W fun e w' => (∃ a cap, e = .returned (.slice a v1.length cap) ∧ Sl w' (fun b => W.heap.size ≤ b) 3 1 (.slice a v1.length cap) (icells v1) v1.length) ∧ At w0 w' p [] ∧ Turned (· = p) W w') := fun W t => nums_some (h.turned t) h1
  have HP : Hid (p < w.heap.size) := lt_of_block h.line
  clear h h1
  rcases hk with rfl | rfl | rfl
  · go_enter Tryz.func57, Tryz.ntmps57
    go_wp2_with (first
      | (go_at_call 56; (with_reducible refine (N1.out _ (((Turned.refl (fun _ => False) w).new _).new _)).mono ?_); rintro e w1 ⟨⟨qa, qc, rfl, hsl⟩, ha, ht⟩
         have B1 : Hid (QB w w1 _ ∧ Turned (· = p) w w1 ∧ At w0 w1 p []) := ⟨QB.first ht HP.out, turned_boxes ht, ha⟩
         have SQ : Hid (Sl w1 (fun b => w.heap.size + 2 ≤ b) 3 1 (.slice qa v1.length qc) (icells v1) v1.length) := hsl.widen fun b q => by simpa using q
         clear hsl
         have qb := B1.out.1; have c0 := cell_of qb.2 0 _ rfl; have c1 := cell_of qb.2 1 _ rfl; have c2 := cell_of qb.2 2 _ rfl; have c3 := cell_of qb.2 3 _ rfl; have c4 := cell_of qb.2 4 _ rfl; have c5 := cell_of qb.2 5 _ rfl; have e0 := free_of qb.2 0; have e1 := free_of qb.2 1; have e2 := free_of qb.2 2; have e3 := free_of qb.2 3; have e4 := free_of qb.2 4; have e5 := free_of qb.2 5; have d0 := cell_of qb.1 0 _ rfl; have d1 := cell_of qb.1 1 _ rfl; have d2 := cell_of qb.1 2 _ rfl; have d3 := cell_of qb.1 3 _ rfl; have d4 := cell_of qb.1 4 _ rfl; have d5 := cell_of qb.1 5 _ rfl; have g0 := free_of qb.1 0; have g1 := free_of qb.1 1; have g2 := free_of qb.1 2; have g3 := free_of qb.1 3; have g4 := free_of qb.1 4; have g5 := free_of qb.1 5; have m0 := lt_of_block qb.1; have m1 := lt_of_block qb.2; clear qb
         clear ha ht))
    obtain ⟨z1, z2⟩ := six_put (w1.setCell ⟨w.heap.size + 1, 4, none⟩ (.slice qa v1.length qc)) w.heap.size _ _ _ _ _ _ (.int .i64 2) (.int .i64 0) (.int .i64 0) (.int .i64 0) (.slice qa v1.length qc) (.string ⟨#[]⟩) ((Go.Mine.heap_setCell_ne _ (by simp)).trans B1.out.1.1)
    refine ques_ret rfl z1 ?_
    have ts : Turned (fun x => x = w.heap.size ∨ x = w.heap.size + 1) w1 _ := ((Turned.refl (· = w.heap.size + 1) w1).set (p := ⟨w.heap.size + 1, 4, none⟩) rfl (.slice qa v1.length qc)).comp z2 fun b hb q => q.symm
    exact ⟨⟨qa, qc, rfl, (SQ.out.turned ts (fun b q z => by omega)).widen fun b q => by omega⟩, B1.out.2.2.other ts fun b q => by have := B1.out.2.2.low; have := HP.out; omega, B1.out.2.1.comp ts fun b hb q => q.elim id fun q => by omega⟩
  · go_enter Tryz.func57, Tryz.ntmps57
    go_wp2_with (first
      | (go_at_call 56; (with_reducible refine (N1.out _ (((Turned.refl (fun _ => False) w).new _).new _)).mono ?_); rintro e w1 ⟨⟨qa, qc, rfl, hsl⟩, ha, ht⟩
         have B1 : Hid (QB w w1 _ ∧ Turned (· = p) w w1 ∧ At w0 w1 p []) := ⟨QB.first ht HP.out, turned_boxes ht, ha⟩
         have SQ : Hid (Sl w1 (fun b => w.heap.size + 2 ≤ b) 3 1 (.slice qa v1.length qc) (icells v1) v1.length) := hsl.widen fun b q => by simpa using q
         clear hsl
         have qb := B1.out.1; have c0 := cell_of qb.2 0 _ rfl; have c1 := cell_of qb.2 1 _ rfl; have c2 := cell_of qb.2 2 _ rfl; have c3 := cell_of qb.2 3 _ rfl; have c4 := cell_of qb.2 4 _ rfl; have c5 := cell_of qb.2 5 _ rfl; have e0 := free_of qb.2 0; have e1 := free_of qb.2 1; have e2 := free_of qb.2 2; have e3 := free_of qb.2 3; have e4 := free_of qb.2 4; have e5 := free_of qb.2 5; have d0 := cell_of qb.1 0 _ rfl; have d1 := cell_of qb.1 1 _ rfl; have d2 := cell_of qb.1 2 _ rfl; have d3 := cell_of qb.1 3 _ rfl; have d4 := cell_of qb.1 4 _ rfl; have d5 := cell_of qb.1 5 _ rfl; have g0 := free_of qb.1 0; have g1 := free_of qb.1 1; have g2 := free_of qb.1 2; have g3 := free_of qb.1 3; have g4 := free_of qb.1 4; have g5 := free_of qb.1 5; have m0 := lt_of_block qb.1; have m1 := lt_of_block qb.2; clear qb
         clear ha ht))
    obtain ⟨z1, z2⟩ := six_put (w1.setCell ⟨w.heap.size + 1, 4, none⟩ (.slice qa v1.length qc)) w.heap.size _ _ _ _ _ _ (.int .i64 5) (.int .i64 0) (.int .i64 0) (.int .i64 0) (.slice qa v1.length qc) (.string ⟨#[]⟩) ((Go.Mine.heap_setCell_ne _ (by simp)).trans B1.out.1.1)
    refine ques_ret rfl z1 ?_
    have ts : Turned (fun x => x = w.heap.size ∨ x = w.heap.size + 1) w1 _ := ((Turned.refl (· = w.heap.size + 1) w1).set (p := ⟨w.heap.size + 1, 4, none⟩) rfl (.slice qa v1.length qc)).comp z2 fun b hb q => q.symm
    exact ⟨⟨qa, qc, rfl, (SQ.out.turned ts (fun b q z => by omega)).widen fun b q => by omega⟩, B1.out.2.2.other ts fun b q => by have := B1.out.2.2.low; have := HP.out; omega, B1.out.2.1.comp ts fun b hb q => q.elim id fun q => by omega⟩
  · go_enter Tryz.func57, Tryz.ntmps57
    go_wp2_with (first
      | (go_at_call 56; (with_reducible refine (N1.out _ (((Turned.refl (fun _ => False) w).new _).new _)).mono ?_); rintro e w1 ⟨⟨qa, qc, rfl, hsl⟩, ha, ht⟩
         have B1 : Hid (QB w w1 _ ∧ Turned (· = p) w w1 ∧ At w0 w1 p []) := ⟨QB.first ht HP.out, turned_boxes ht, ha⟩
         have SQ : Hid (Sl w1 (fun b => w.heap.size + 2 ≤ b) 3 1 (.slice qa v1.length qc) (icells v1) v1.length) := hsl.widen fun b q => by simpa using q
         clear hsl
         have qb := B1.out.1; have c0 := cell_of qb.2 0 _ rfl; have c1 := cell_of qb.2 1 _ rfl; have c2 := cell_of qb.2 2 _ rfl; have c3 := cell_of qb.2 3 _ rfl; have c4 := cell_of qb.2 4 _ rfl; have c5 := cell_of qb.2 5 _ rfl; have e0 := free_of qb.2 0; have e1 := free_of qb.2 1; have e2 := free_of qb.2 2; have e3 := free_of qb.2 3; have e4 := free_of qb.2 4; have e5 := free_of qb.2 5; have d0 := cell_of qb.1 0 _ rfl; have d1 := cell_of qb.1 1 _ rfl; have d2 := cell_of qb.1 2 _ rfl; have d3 := cell_of qb.1 3 _ rfl; have d4 := cell_of qb.1 4 _ rfl; have d5 := cell_of qb.1 5 _ rfl; have g0 := free_of qb.1 0; have g1 := free_of qb.1 1; have g2 := free_of qb.1 2; have g3 := free_of qb.1 3; have g4 := free_of qb.1 4; have g5 := free_of qb.1 5; have m0 := lt_of_block qb.1; have m1 := lt_of_block qb.2; clear qb
         clear ha ht))
    obtain ⟨z1, z2⟩ := six_put (w1.setCell ⟨w.heap.size + 1, 4, none⟩ (.slice qa v1.length qc)) w.heap.size _ _ _ _ _ _ (.int .i64 6) (.int .i64 0) (.int .i64 0) (.int .i64 0) (.slice qa v1.length qc) (.string ⟨#[]⟩) ((Go.Mine.heap_setCell_ne _ (by simp)).trans B1.out.1.1)
    refine ques_ret rfl z1 ?_
    have ts : Turned (fun x => x = w.heap.size ∨ x = w.heap.size + 1) w1 _ := ((Turned.refl (· = w.heap.size + 1) w1).set (p := ⟨w.heap.size + 1, 4, none⟩) rfl (.slice qa v1.length qc)).comp z2 fun b hb q => q.symm
    exact ⟨⟨qa, qc, rfl, (SQ.out.turned ts (fun b q z => by omega)).widen fun b q => by omega⟩, B1.out.2.2.other ts fun b q => by have := B1.out.2.2.low; have := HP.out; omega, B1.out.2.1.comp ts fun b hb q => q.elim id fun q => by omega⟩

set_option maxRecDepth 100000 in
set_option maxHeartbeats 1000000 in
theorem ques_nt0 (k : Int) (hk : k = 7 ∨ k = 8) (w0 w : World) (p : Nat) (s : B) (h : At w0 w p s) (h1 : pNum s = none) :
    Calls Tryz.prog 57 #[pt p, .int .i64 k] w (QuesPost w0 w p (none)) := by
  have N1 : Hid (∀ W, Turned (fun _ => False) w W → Calls Tryz.prog 52 #[pt p] W fun e w' => e = .panicked [wrongE] ∧ Turned (· = p) W w') := fun W t => num_none (h.turned t) h1
  have HP : Hid (p < w.heap.size) := lt_of_block h.line
  clear h h1
  rcases hk with rfl | rfl
  · go_enter Tryz.func57, Tryz.ntmps57
    go_wp2_with (first
      | (go_at_call 52; (with_reducible refine (N1.out _ (((Turned.refl (fun _ => False) w).new _).new _)).mono ?_); rintro e w1 ⟨rfl, ht⟩))
    exact ⟨rfl, rfl, turned_boxes ht⟩
  · go_enter Tryz.func57, Tryz.ntmps57
    go_wp2_with (first
      | (go_at_call 52; (with_reducible refine (N1.out _ (((Turned.refl (fun _ => False) w).new _).new _)).mono ?_); rintro e w1 ⟨rfl, ht⟩))
    exact ⟨rfl, rfl, turned_boxes ht⟩

set_option maxRecDepth 100000 in
set_option maxHeartbeats 1000000 in
theorem ques_nt1 (k : Int) (hk : k = 7 ∨ k = 8) (w0 w : World) (p : Nat) (s : B) (h : At w0 w p s) (v1 : Int) (r1 : B) (h1 : pNum s = some (v1, r1)) (h2 : pText r1 = none) :
    Calls Tryz.prog 57 #[pt p, .int .i64 k] w (QuesPost w0 w p (none)) := by
  have N1 : Hid (∀ W, Turned (fun _ => False) w W → Calls Tryz.prog 52 #[pt p] W fun e w' => e = .returned (.int .i64 v1) ∧ At w0 w' p r1 ∧ Turned (· = p) W w') := fun W t => num_some (h.turned t) h1
  have N2 : Hid (∀ W, At w0 W p r1 → Calls Tryz.prog 54 #[pt p] W fun e w' => e = .panicked [wrongE] ∧ Turned (· = p) W w') := fun W t => txt_none t h2
  have HP : Hid (p < w.heap.size) := lt_of_block h.line
  clear h h1 h2
  rcases hk with rfl | rfl
  · go_enter Tryz.func57, Tryz.ntmps57
    go_wp2_with (first
      | (go_at_call 52; (with_reducible refine (N1.out _ (((Turned.refl (fun _ => False) w).new _).new _)).mono ?_); rintro e w1 ⟨rfl, ha, ht⟩
         have B1 : Hid (QB w w1 _ ∧ Turned (· = p) w w1 ∧ At w0 w1 p r1) := ⟨QB.first ht HP.out, turned_boxes ht, ha⟩
         have q2 := N2.out w1 ha
         clear ha ht)
      | (go_at_call 54; (with_reducible refine q2.mono ?_); rintro e w2 ⟨rfl, ht⟩))
    exact ⟨rfl, rfl, B1.out.2.1.trans ht fun _ _ q => q⟩
  · go_enter Tryz.func57, Tryz.ntmps57
    go_wp2_with (first
      | (go_at_call 52; (with_reducible refine (N1.out _ (((Turned.refl (fun _ => False) w).new _).new _)).mono ?_); rintro e w1 ⟨rfl, ha, ht⟩
         have B1 : Hid (QB w w1 _ ∧ Turned (· = p) w w1 ∧ At w0 w1 p r1) := ⟨QB.first ht HP.out, turned_boxes ht, ha⟩
         have q2 := N2.out w1 ha
         clear ha ht)
      | (go_at_call 54; (with_reducible refine q2.mono ?_); rintro e w2 ⟨rfl, ht⟩))
    exact ⟨rfl, rfl, B1.out.2.1.trans ht fun _ _ q => q⟩

set_option maxRecDepth 100000 in
set_option maxHeartbeats 1000000 in
theorem ques_nt2 (k : Int) (hk : k = 7 ∨ k = 8) (w0 w : World) (p : Nat) (s : B) (h : At w0 w p s) (v1 : Int) (r1 : B) (h1 : pNum s = some (v1, r1)) (v2 : B) (r2 : B) (h2 : pText r1 = some (v2, r2)) :
    Calls Tryz.prog 57 #[pt p, .int .i64 k] w (QuesPost w0 w p (some ({ kind := k, a := v1, path := v2 }, r2))) := by
  have N1 : Hid (∀ W, Turned (fun _ => False) w W → Calls Tryz.prog 52 #[pt p] W fun e w' => e = .returned (.int .i64 v1) ∧ At w0 w' p r1 ∧ Turned (· = p) W w') := fun W t => num_some (h.turned t) h1
  have N2 : Hid (∀ W, At w0 W p r1 → Calls Tryz.prog 54 #[pt p] W fun e w' => e = .returned (.string (bs v2)) ∧ At w0 w' p r2 ∧ Turned (· = p) W w') := fun W t => txt_some t h2
  have HP : Hid (p < w.heap.size) := lt_of_block h.line
  clear h h1 h2
  rcases hk with rfl | rfl
  · go_enter Tryz.func57, Tryz.ntmps57
    go_wp2_with (first
      | (go_at_call 52; (with_reducible refine (N1.out _ (((Turned.refl (fun _ => False) w).new _).new _)).mono ?_); rintro e w1 ⟨rfl, ha, ht⟩
         have B1 : Hid (QB w w1 _ ∧ Turned (· = p) w w1 ∧ At w0 w1 p r1) := ⟨QB.first ht HP.out, turned_boxes ht, ha⟩
         have q2 := N2.out w1 ha
         clear ha ht)
      | (go_at_call 54; (with_reducible refine q2.mono ?_); rintro e w2 ⟨rfl, ha, ht⟩
         have B2 : Hid (QB w w2 _ ∧ Turned (· = p) w w2 ∧ At w0 w2 p r2) := ⟨B1.out.1.next ht HP.out, B1.out.2.1.trans ht fun _ _ q => q, ha⟩
         have qb := B2.out.1; have c0 := cell_of qb.2 0 _ rfl; have c1 := cell_of qb.2 1 _ rfl; have c2 := cell_of qb.2 2 _ rfl; have c3 := cell_of qb.2 3 _ rfl; have c4 := cell_of qb.2 4 _ rfl; have c5 := cell_of qb.2 5 _ rfl; have e0 := free_of qb.2 0; have e1 := free_of qb.2 1; have e2 := free_of qb.2 2; have e3 := free_of qb.2 3; have e4 := free_of qb.2 4; have e5 := free_of qb.2 5; have d0 := cell_of qb.1 0 _ rfl; have d1 := cell_of qb.1 1 _ rfl; have d2 := cell_of qb.1 2 _ rfl; have d3 := cell_of qb.1 3 _ rfl; have d4 := cell_of qb.1 4 _ rfl; have d5 := cell_of qb.1 5 _ rfl; have g0 := free_of qb.1 0; have g1 := free_of qb.1 1; have g2 := free_of qb.1 2; have g3 := free_of qb.1 3; have g4 := free_of qb.1 4; have g5 := free_of qb.1 5; have m0 := lt_of_block qb.1; have m1 := lt_of_block qb.2; clear qb
         clear ha ht q2))
    obtain ⟨z1, z2⟩ := six_put ((w2.setCell ⟨w.heap.size + 1, 1, none⟩ (.int .i64 v1)).setCell ⟨w.heap.size + 1, 5, none⟩ (.string (bs v2))) w.heap.size _ _ _ _ _ _ (.int .i64 7) (.int .i64 v1) (.int .i64 0) (.int .i64 0) (.slice none 0 0) (.string (bs v2)) ((Go.Mine.heap_setCell_ne _ (by simp)).trans ((Go.Mine.heap_setCell_ne _ (by simp)).trans B2.out.1.1))
    refine ques_ret rfl z1 ?_
    have ts : Turned (fun x => x = w.heap.size ∨ x = w.heap.size + 1) w2 _ := (((Turned.refl (· = w.heap.size + 1) w2).set (p := ⟨w.heap.size + 1, 1, none⟩) rfl (.int .i64 v1)).set (p := ⟨w.heap.size + 1, 5, none⟩) rfl (.string (bs v2))).comp z2 fun b hb q => q.symm
    exact ⟨⟨none, 0, rfl, Sl.nil _ _ _ _⟩, B2.out.2.2.other ts fun b q => by have := B2.out.2.2.low; have := HP.out; omega, B2.out.2.1.comp ts fun b hb q => q.elim id fun q => by omega⟩
  · go_enter Tryz.func57, Tryz.ntmps57
    go_wp2_with (first
      | (go_at_call 52; (with_reducible refine (N1.out _ (((Turned.refl (fun _ => False) w).new _).new _)).mono ?_); rintro e w1 ⟨rfl, ha, ht⟩
         have B1 : Hid (QB w w1 _ ∧ Turned (· = p) w w1 ∧ At w0 w1 p r1) := ⟨QB.first ht HP.out, turned_boxes ht, ha⟩
         have q2 := N2.out w1 ha
         clear ha ht)
      | (go_at_call 54; (with_reducible refine q2.mono ?_); rintro e w2 ⟨rfl, ha, ht⟩
         have B2 : Hid (QB w w2 _ ∧ Turned (· = p) w w2 ∧ At w0 w2 p r2) := ⟨B1.out.1.next ht HP.out, B1.out.2.1.trans ht fun _ _ q => q, ha⟩
         have qb := B2.out.1; have c0 := cell_of qb.2 0 _ rfl; have c1 := cell_of qb.2 1 _ rfl; have c2 := cell_of qb.2 2 _ rfl; have c3 := cell_of qb.2 3 _ rfl; have c4 := cell_of qb.2 4 _ rfl; have c5 := cell_of qb.2 5 _ rfl; have e0 := free_of qb.2 0; have e1 := free_of qb.2 1; have e2 := free_of qb.2 2; have e3 := free_of qb.2 3; have e4 := free_of qb.2 4; have e5 := free_of qb.2 5; have d0 := cell_of qb.1 0 _ rfl; have d1 := cell_of qb.1 1 _ rfl; have d2 := cell_of qb.1 2 _ rfl; have d3 := cell_of qb.1 3 _ rfl; have d4 := cell_of qb.1 4 _ rfl; have d5 := cell_of qb.1 5 _ rfl; have g0 := free_of qb.1 0; have g1 := free_of qb.1 1; have g2 := free_of qb.1 2; have g3 := free_of qb.1 3; have g4 := free_of qb.1 4; have g5 := free_of qb.1 5; have m0 := lt_of_block qb.1; have m1 := lt_of_block qb.2; clear qb
         clear ha ht q2))
    obtain ⟨z1, z2⟩ := six_put ((w2.setCell ⟨w.heap.size + 1, 1, none⟩ (.int .i64 v1)).setCell ⟨w.heap.size + 1, 5, none⟩ (.string (bs v2))) w.heap.size _ _ _ _ _ _ (.int .i64 8) (.int .i64 v1) (.int .i64 0) (.int .i64 0) (.slice none 0 0) (.string (bs v2)) ((Go.Mine.heap_setCell_ne _ (by simp)).trans ((Go.Mine.heap_setCell_ne _ (by simp)).trans B2.out.1.1))
    refine ques_ret rfl z1 ?_
    have ts : Turned (fun x => x = w.heap.size ∨ x = w.heap.size + 1) w2 _ := (((Turned.refl (· = w.heap.size + 1) w2).set (p := ⟨w.heap.size + 1, 1, none⟩) rfl (.int .i64 v1)).set (p := ⟨w.heap.size + 1, 5, none⟩) rfl (.string (bs v2))).comp z2 fun b hb q => q.symm
    exact ⟨⟨none, 0, rfl, Sl.nil _ _ _ _⟩, B2.out.2.2.other ts fun b q => by have := B2.out.2.2.low; have := HP.out; omega, B2.out.2.1.comp ts fun b hb q => q.elim id fun q => by omega⟩

set_option maxRecDepth 100000 in
set_option maxHeartbeats 1000000 in
theorem ques_nnn0 (k : Int) (hk : k = 9 ∨ k = 10) (w0 w : World) (p : Nat) (s : B) (h : At w0 w p s) (h1 : pNum s = none) :
    Calls Tryz.prog 57 #[pt p, .int .i64 k] w (QuesPost w0 w p (none)) := by
  have N1 : Hid (∀ W, Turned (fun _ => False) w W → Calls Tryz.prog 52 #[pt p] W fun e w' => e = .panicked [wrongE] ∧ Turned (· = p) W w') := fun W t => num_none (h.turned t) h1
  have HP : Hid (p < w.heap.size) := lt_of_block h.line
  clear h h1
  rcases hk with rfl | rfl
  · go_enter Tryz.func57, Tryz.ntmps57
    go_wp2_with (first
      | (go_at_call 52; (with_reducible refine (N1.out _ (((Turned.refl (fun _ => False) w).new _).new _)).mono ?_); rintro e w1 ⟨rfl, ht⟩))
    exact ⟨rfl, rfl, turned_boxes ht⟩
  · go_enter Tryz.func57, Tryz.ntmps57
    go_wp2_with (first
      | (go_at_call 52; (with_reducible refine (N1.out _ (((Turned.refl (fun _ => False) w).new _).new _)).mono ?_); rintro e w1 ⟨rfl, ht⟩))
    exact ⟨rfl, rfl, turned_boxes ht⟩

set_option maxRecDepth 100000 in
set_option maxHeartbeats 1000000 in
theorem ques_nnn1 (k : Int) (hk : k = 9 ∨ k = 10) (w0 w : World) (p : Nat) (s : B) (h : At w0 w p s) (v1 : Int) (r1 : B) (h1 : pNum s = some (v1, r1)) (h2 : pNum r1 = none) :
    Calls Tryz.prog 57 #[pt p, .int .i64 k] w (QuesPost w0 w p (none)) := by
  have N1 : Hid (∀ W, Turned (fun _ => False) w W → Calls Tryz.prog 52 #[pt p] W fun e w' => e = .returned (.int .i64 v1) ∧ At w0 w' p r1 ∧ Turned (· = p) W w') := fun W t => num_some (h.turned t) h1
  have N2 : Hid (∀ W, At w0 W p r1 → Calls Tryz.prog 52 #[pt p] W fun e w' => e = .panicked [wrongE] ∧ Turned (· = p) W w') := fun W t => num_none t h2
  have HP : Hid (p < w.heap.size) := lt_of_block h.line
  clear h h1 h2
  rcases hk with rfl | rfl
  · go_enter Tryz.func57, Tryz.ntmps57
    go_wp2_with (first
      | (go_at_call 52; (with_reducible refine (N1.out _ (((Turned.refl (fun _ => False) w).new _).new _)).mono ?_); rintro e w1 ⟨rfl, ha, ht⟩
         have B1 : Hid (QB w w1 _ ∧ Turned (· = p) w w1 ∧ At w0 w1 p r1) := ⟨QB.first ht HP.out, turned_boxes ht, ha⟩
         have q2 := N2.out w1 ha
         clear ha ht)
      | (go_at_call 52; (with_reducible refine q2.mono ?_); rintro e w2 ⟨rfl, ht⟩))
    exact ⟨rfl, rfl, B1.out.2.1.trans ht fun _ _ q => q⟩
  · go_enter Tryz.func57, Tryz.ntmps57
    go_wp2_with (first
      | (go_at_call 52; (with_reducible refine (N1.out _ (((Turned.refl (fun _ => False) w).new _).new _)).mono ?_); rintro e w1 ⟨rfl, ha, ht⟩
         have B1 : Hid (QB w w1 _ ∧ Turned (· = p) w w1 ∧ At w0 w1 p r1) := ⟨QB.first ht HP.out, turned_boxes ht, ha⟩
         have q2 := N2.out w1 ha
         clear ha ht)
      | (go_at_call 52; (with_reducible refine q2.mono ?_); rintro e w2 ⟨rfl, ht⟩))
    exact ⟨rfl, rfl, B1.out.2.1.trans ht fun _ _ q => q⟩

set_option maxRecDepth 100000 in
set_option maxHeartbeats 1000000 in
theorem ques_nnn2 (k : Int) (hk : k = 9 ∨ k = 10) (w0 w : World) (p : Nat) (s : B) (h : At w0 w p s) (v1 : Int) (r1 : B) (h1 : pNum s = some (v1, r1)) (v2 : Int) (r2 : B) (h2 : pNum r1 = some (v2, r2)) (h3 : pNum r2 = none) :
    Calls Tryz.prog 57 #[pt p, .int .i64 k] w (QuesPost w0 w p (none)) := by
  have N1 : Hid (∀ W, Turned (fun _ => False) w W → Calls Tryz.prog 52 #[pt p] W fun e w' => e = .returned (.int .i64 v1) ∧ At w0 w' p r1 ∧ Turned (· = p) W w') := fun W t => num_some (h.turned t) h1
  have N2 : Hid (∀ W, At w0 W p r1 → Calls Tryz.prog 52 #[pt p] W fun e w' => e = .returned (.int .i64 v2) ∧ At w0 w' p r2 ∧ Turned (· = p) W w') := fun W t => num_some t h2
  have N3 : Hid (∀ W, At w0 W p r2 → Calls Tryz.prog 52 #[pt p] W fun e w' => e = .panicked [wrongE] ∧ Turned (· = p) W w') := fun W t => num_none t h3
  have HP : Hid (p < w.heap.size) := lt_of_block h.line
  clear h h1 h2 h3
  rcases hk with rfl | rfl
  · go_enter Tryz.func57, Tryz.ntmps57
    go_wp2_with (first
      | (go_at_call 52; (with_reducible refine (N1.out _ (((Turned.refl (fun _ => False) w).new _).new _)).mono ?_); rintro e w1 ⟨rfl, ha, ht⟩
         have B1 : Hid (QB w w1 _ ∧ Turned (· = p) w w1 ∧ At w0 w1 p r1) := ⟨QB.first ht HP.out, turned_boxes ht, ha⟩
         have q2 := N2.out w1 ha
         clear ha ht)
      | (go_at_call 52; (with_reducible refine q2.mono ?_); rintro e w2 ⟨rfl, ha, ht⟩
         have B2 : Hid (QB w w2 _ ∧ Turned (· = p) w w2 ∧ At w0 w2 p r2) := ⟨B1.out.1.next ht HP.out, B1.out.2.1.trans ht fun _ _ q => q, ha⟩
         have q3 := N3.out w2 ha
         clear ha ht q2)
      | (go_at_call 52; (with_reducible refine q3.mono ?_); rintro e w3 ⟨rfl, ht⟩))
    exact ⟨rfl, rfl, B2.out.2.1.trans ht fun _ _ q => q⟩
  · go_enter Tryz.func57, Tryz.ntmps57
    go_wp2_with (first
      | (go_at_call 52; (with_reducible refine (N1.out _ (((Turned.refl (fun _ => False) w).new _).new _)).mono ?_); rintro e w1 ⟨rfl, ha, ht⟩
         have B1 : Hid (QB w w1 _ ∧ Turned (· = p) w w1 ∧ At w0 w1 p r1) := ⟨QB.first ht HP.out, turned_boxes ht, ha⟩
         have q2 := N2.out w1 ha
         clear ha ht)
      | (go_at_call 52; (with_reducible refine q2.mono ?_); rintro e w2 ⟨rfl, ha, ht⟩
         have B2 : Hid (QB w w2 _ ∧ Turned (· = p) w w2 ∧ At w0 w2 p r2) := ⟨B1.out.1.next ht HP.out, B1.out.2.1.trans ht fun _ _ q => q, ha⟩
         have q3 := N3.out w2 ha
         clear ha ht q2)
      | (go_at_call 52; (with_reducible refine q3.mono ?_); rintro e w3 ⟨rfl, ht⟩))
    exact ⟨rfl, rfl, B2.out.2.1.trans ht fun _ _ q => q⟩

set_option maxRecDepth 100000 in
set_option maxHeartbeats 1000000 in
theorem ques_nnn3 (k : Int) (hk : k = 9 ∨ k = 10) (w0 w : World) (p : Nat) (s : B) (h : At w0 w p s) (v1 : Int) (r1 : B) (h1 : pNum s = some (v1, r1)) (v2 : Int) (r2 : B) (h2 : pNum r1 = some (v2, r2)) (v3 : Int) (r3 : B) (h3 : pNum r2 = some (v3, r3)) :
    Calls Tryz.prog 57 #[pt p, .int .i64 k] w (QuesPost w0 w p (some ({ kind := k, a := v1, b := v2, limit := v3 }, r3))) := by
  have N1 : Hid (∀ W, Turned (fun _ => False) w W → Calls Tryz.prog 52 #[pt p] W fun e w' => e = .returned (.int .i64 v1) ∧ At w0 w' p r1 ∧ Turned (· = p) W w') := fun W t => num_some (h.turned t) h1
  have N2 : Hid (∀ W, At w0 W p r1 → Calls Tryz.prog 52 #[pt p] W fun e w' => e = .returned (.int .i64 v2) ∧ At w0 w' p r2 ∧ Turned (· = p) W w') := fun W t => num_some t h2
  have N3 : Hid (∀ W, At w0 W p r2 → Calls Tryz.prog 52 #[pt p] W fun e w' => e = .returned (.int .i64 v3) ∧ At w0 w' p r3 ∧ Turned (· = p) W w') := fun W t => num_some t h3
  have HP : Hid (p < w.heap.size) := lt_of_block h.line
  clear h h1 h2 h3
  rcases hk with rfl | rfl
  · go_enter Tryz.func57, Tryz.ntmps57
    go_wp2_with (first
      | (go_at_call 52; (with_reducible refine (N1.out _ (((Turned.refl (fun _ => False) w).new _).new _)).mono ?_); rintro e w1 ⟨rfl, ha, ht⟩
         have B1 : Hid (QB w w1 _ ∧ Turned (· = p) w w1 ∧ At w0 w1 p r1) := ⟨QB.first ht HP.out, turned_boxes ht, ha⟩
         have q2 := N2.out w1 ha
         clear ha ht)
      | (go_at_call 52; (with_reducible refine q2.mono ?_); rintro e w2 ⟨rfl, ha, ht⟩
         have B2 : Hid (QB w w2 _ ∧ Turned (· = p) w w2 ∧ At w0 w2 p r2) := ⟨B1.out.1.next ht HP.out, B1.out.2.1.trans ht fun _ _ q => q, ha⟩
         have q3 := N3.out w2 ha
         clear ha ht q2)
      | (go_at_call 52; (with_reducible refine q3.mono ?_); rintro e w3 ⟨rfl, ha, ht⟩
         have B3 : Hid (QB w w3 _ ∧ Turned (· = p) w w3 ∧ At w0 w3 p r3) := ⟨B2.out.1.next ht HP.out, B2.out.2.1.trans ht fun _ _ q => q, ha⟩
         have qb := B3.out.1; have c0 := cell_of qb.2 0 _ rfl; have c1 := cell_of qb.2 1 _ rfl; have c2 := cell_of qb.2 2 _ rfl; have c3 := cell_of qb.2 3 _ rfl; have c4 := cell_of qb.2 4 _ rfl; have c5 := cell_of qb.2 5 _ rfl; have e0 := free_of qb.2 0; have e1 := free_of qb.2 1; have e2 := free_of qb.2 2; have e3 := free_of qb.2 3; have e4 := free_of qb.2 4; have e5 := free_of qb.2 5; have d0 := cell_of qb.1 0 _ rfl; have d1 := cell_of qb.1 1 _ rfl; have d2 := cell_of qb.1 2 _ rfl; have d3 := cell_of qb.1 3 _ rfl; have d4 := cell_of qb.1 4 _ rfl; have d5 := cell_of qb.1 5 _ rfl; have g0 := free_of qb.1 0; have g1 := free_of qb.1 1; have g2 := free_of qb.1 2; have g3 := free_of qb.1 3; have g4 := free_of qb.1 4; have g5 := free_of qb.1 5; have m0 := lt_of_block qb.1; have m1 := lt_of_block qb.2; clear qb
         clear ha ht q3))
    obtain ⟨z1, z2⟩ := six_put (((w3.setCell ⟨w.heap.size + 1, 1, none⟩ (.int .i64 v1)).setCell ⟨w.heap.size + 1, 2, none⟩ (.int .i64 v2)).setCell ⟨w.heap.size + 1, 3, none⟩ (.int .i64 v3)) w.heap.size _ _ _ _ _ _ (.int .i64 9) (.int .i64 v1) (.int .i64 v2) (.int .i64 v3) (.slice none 0 0) (.string ⟨#[]⟩) ((Go.Mine.heap_setCell_ne _ (by simp)).trans ((Go.Mine.heap_setCell_ne _ (by simp)).trans ((Go.Mine.heap_setCell_ne _ (by simp)).trans B3.out.1.1)))
    refine ques_ret rfl z1 ?_
    have ts : Turned (fun x => x = w.heap.size ∨ x = w.heap.size + 1) w3 _ := ((((Turned.refl (· = w.heap.size + 1) w3).set (p := ⟨w.heap.size + 1, 1, none⟩) rfl (.int .i64 v1)).set (p := ⟨w.heap.size + 1, 2, none⟩) rfl (.int .i64 v2)).set (p := ⟨w.heap.size + 1, 3, none⟩) rfl (.int .i64 v3)).comp z2 fun b hb q => q.symm
    exact ⟨⟨none, 0, rfl, Sl.nil _ _ _ _⟩, B3.out.2.2.other ts fun b q => by have := B3.out.2.2.low; have := HP.out; omega, B3.out.2.1.comp ts fun b hb q => q.elim id fun q => by omega⟩
  · go_enter Tryz.func57, Tryz.ntmps57
    go_wp2_with (first
      | (go_at_call 52; (with_reducible refine (N1.out _ (((Turned.refl (fun _ => False) w).new _).new _)).mono ?_); rintro e w1 ⟨rfl, ha, ht⟩
         have B1 : Hid (QB w w1 _ ∧ Turned (· = p) w w1 ∧ At w0 w1 p r1) := ⟨QB.first ht HP.out, turned_boxes ht, ha⟩
         have q2 := N2.out w1 ha
         clear ha ht)
      | (go_at_call 52; (with_reducible refine q2.mono ?_); rintro e w2 ⟨rfl, ha, ht⟩
         have B2 : Hid (QB w w2 _ ∧ Turned (· = p) w w2 ∧ At w0 w2 p r2) := ⟨B1.out.1.next ht HP.out, B1.out.2.1.trans ht fun _ _ q => q, ha⟩
         have q3 := N3.out w2 ha
         clear ha ht q2)
      | (go_at_call 52; (with_reducible refine q3.mono ?_); rintro e w3 ⟨rfl, ha, ht⟩
         have B3 : Hid (QB w w3 _ ∧ Turned (· = p) w w3 ∧ At w0 w3 p r3) := ⟨B2.out.1.next ht HP.out, B2.out.2.1.trans ht fun _ _ q => q, ha⟩
         have qb := B3.out.1; have c0 := cell_of qb.2 0 _ rfl; have c1 := cell_of qb.2 1 _ rfl; have c2 := cell_of qb.2 2 _ rfl; have c3 := cell_of qb.2 3 _ rfl; have c4 := cell_of qb.2 4 _ rfl; have c5 := cell_of qb.2 5 _ rfl; have e0 := free_of qb.2 0; have e1 := free_of qb.2 1; have e2 := free_of qb.2 2; have e3 := free_of qb.2 3; have e4 := free_of qb.2 4; have e5 := free_of qb.2 5; have d0 := cell_of qb.1 0 _ rfl; have d1 := cell_of qb.1 1 _ rfl; have d2 := cell_of qb.1 2 _ rfl; have d3 := cell_of qb.1 3 _ rfl; have d4 := cell_of qb.1 4 _ rfl; have d5 := cell_of qb.1 5 _ rfl; have g0 := free_of qb.1 0; have g1 := free_of qb.1 1; have g2 := free_of qb.1 2; have g3 := free_of qb.1 3; have g4 := free_of qb.1 4; have g5 := free_of qb.1 5; have m0 := lt_of_block qb.1; have m1 := lt_of_block qb.2; clear qb
         clear ha ht q3))
    obtain ⟨z1, z2⟩ := six_put (((w3.setCell ⟨w.heap.size + 1, 1, none⟩ (.int .i64 v1)).setCell ⟨w.heap.size + 1, 2, none⟩ (.int .i64 v2)).setCell ⟨w.heap.size + 1, 3, none⟩ (.int .i64 v3)) w.heap.size _ _ _ _ _ _ (.int .i64 10) (.int .i64 v1) (.int .i64 v2) (.int .i64 v3) (.slice none 0 0) (.string ⟨#[]⟩) ((Go.Mine.heap_setCell_ne _ (by simp)).trans ((Go.Mine.heap_setCell_ne _ (by simp)).trans ((Go.Mine.heap_setCell_ne _ (by simp)).trans B3.out.1.1)))
    refine ques_ret rfl z1 ?_
    have ts : Turned (fun x => x = w.heap.size ∨ x = w.heap.size + 1) w3 _ := ((((Turned.refl (· = w.heap.size + 1) w3).set (p := ⟨w.heap.size + 1, 1, none⟩) rfl (.int .i64 v1)).set (p := ⟨w.heap.size + 1, 2, none⟩) rfl (.int .i64 v2)).set (p := ⟨w.heap.size + 1, 3, none⟩) rfl (.int .i64 v3)).comp z2 fun b hb q => q.symm
    exact ⟨⟨none, 0, rfl, Sl.nil _ _ _ _⟩, B3.out.2.2.other ts fun b q => by have := B3.out.2.2.low; have := HP.out; omega, B3.out.2.1.comp ts fun b hb q => q.elim id fun q => by omega⟩

set_option maxRecDepth 100000 in
set_option maxHeartbeats 1000000 in
theorem ques_n0 (k : Int) (hk : k = 11 ∨ k = 12) (w0 w : World) (p : Nat) (s : B) (h : At w0 w p s) (h1 : pNum s = none) :
    Calls Tryz.prog 57 #[pt p, .int .i64 k] w (QuesPost w0 w p (none)) := by
  have N1 : Hid (∀ W, Turned (fun _ => False) w W → Calls Tryz.prog 52 #[pt p] W fun e w' => e = .panicked [wrongE] ∧ Turned (· = p) W w') := fun W t => num_none (h.turned t) h1
  have HP : Hid (p < w.heap.size) := lt_of_block h.line
  clear h h1
  rcases hk with rfl | rfl
  · go_enter Tryz.func57, Tryz.ntmps57
    go_wp2_with (first
      | (go_at_call 52; (with_reducible refine (N1.out _ (((Turned.refl (fun _ => False) w).new _).new _)).mono ?_); rintro e w1 ⟨rfl, ht⟩))
    exact ⟨rfl, rfl, turned_boxes ht⟩
  · go_enter Tryz.func57, Tryz.ntmps57
    go_wp2_with (first
      | (go_at_call 52; (with_reducible refine (N1.out _ (((Turned.refl (fun _ => False) w).new _).new _)).mono ?_); rintro e w1 ⟨rfl, ht⟩))
    exact ⟨rfl, rfl, turned_boxes ht⟩

set_option maxRecDepth 100000 in
set_option maxHeartbeats 1000000 in
theorem ques_n1 (k : Int) (hk : k = 11 ∨ k = 12) (w0 w : World) (p : Nat) (s : B) (h : At w0 w p s) (v1 : Int) (r1 : B) (h1 : pNum s = some (v1, r1)) :
    Calls Tryz.prog 57 #[pt p, .int .i64 k] w (QuesPost w0 w p (some ({ kind := k, a := v1 }, r1))) := by
  have N1 : Hid (∀ W, Turned (fun _ => False) w W → Calls Tryz.prog 52 #[pt p] W fun e w' => e = .returned (.int .i64 v1) ∧ At w0 w' p r1 ∧ Turned (· = p) W w') := fun W t => num_some (h.turned t) h1
  have HP : Hid (p < w.heap.size) := lt_of_block h.line
  clear h h1
  rcases hk with rfl | rfl
  · go_enter Tryz.func57, Tryz.ntmps57
    go_wp2_with (first
      | (go_at_call 52; (with_reducible refine (N1.out _ (((Turned.refl (fun _ => False) w).new _).new _)).mono ?_); rintro e w1 ⟨rfl, ha, ht⟩
         have B1 : Hid (QB w w1 _ ∧ Turned (· = p) w w1 ∧ At w0 w1 p r1) := ⟨QB.first ht HP.out, turned_boxes ht, ha⟩
         have qb := B1.out.1; have c0 := cell_of qb.2 0 _ rfl; have c1 := cell_of qb.2 1 _ rfl; have c2 := cell_of qb.2 2 _ rfl; have c3 := cell_of qb.2 3 _ rfl; have c4 := cell_of qb.2 4 _ rfl; have c5 := cell_of qb.2 5 _ rfl; have e0 := free_of qb.2 0; have e1 := free_of qb.2 1; have e2 := free_of qb.2 2; have e3 := free_of qb.2 3; have e4 := free_of qb.2 4; have e5 := free_of qb.2 5; have d0 := cell_of qb.1 0 _ rfl; have d1 := cell_of qb.1 1 _ rfl; have d2 := cell_of qb.1 2 _ rfl; have d3 := cell_of qb.1 3 _ rfl; have d4 := cell_of qb.1 4 _ rfl; have d5 := cell_of qb.1 5 _ rfl; have g0 := free_of qb.1 0; have g1 := free_of qb.1 1; have g2 := free_of qb.1 2; have g3 := free_of qb.1 3; have g4 := free_of qb.1 4; have g5 := free_of qb.1 5; have m0 := lt_of_block qb.1; have m1 := lt_of_block qb.2; clear qb
         clear ha ht))
    obtain ⟨z1, z2⟩ := six_put (w1.setCell ⟨w.heap.size + 1, 1, none⟩ (.int .i64 v1)) w.heap.size _ _ _ _ _ _ (.int .i64 11) (.int .i64 v1) (.int .i64 0) (.int .i64 0) (.slice none 0 0) (.string ⟨#[]⟩) ((Go.Mine.heap_setCell_ne _ (by simp)).trans B1.out.1.1)
    refine ques_ret rfl z1 ?_
    have ts : Turned (fun x => x = w.heap.size ∨ x = w.heap.size + 1) w1 _ := ((Turned.refl (· = w.heap.size + 1) w1).set (p := ⟨w.heap.size + 1, 1, none⟩) rfl (.int .i64 v1)).comp z2 fun b hb q => q.symm
    exact ⟨⟨none, 0, rfl, Sl.nil _ _ _ _⟩, B1.out.2.2.other ts fun b q => by have := B1.out.2.2.low; have := HP.out; omega, B1.out.2.1.comp ts fun b hb q => q.elim id fun q => by omega⟩
  · go_enter Tryz.func57, Tryz.ntmps57
    go_wp2_with (first
      | (go_at_call 52; (with_reducible refine (N1.out _ (((Turned.refl (fun _ => False) w).new _).new _)).mono ?_); rintro e w1 ⟨rfl, ha, ht⟩
         have B1 : Hid (QB w w1 _ ∧ Turned (· = p) w w1 ∧ At w0 w1 p r1) := ⟨QB.first ht HP.out, turned_boxes ht, ha⟩
         have qb := B1.out.1; have c0 := cell_of qb.2 0 _ rfl; have c1 := cell_of qb.2 1 _ rfl; have c2 := cell_of qb.2 2 _ rfl; have c3 := cell_of qb.2 3 _ rfl; have c4 := cell_of qb.2 4 _ rfl; have c5 := cell_of qb.2 5 _ rfl; have e0 := free_of qb.2 0; have e1 := free_of qb.2 1; have e2 := free_of qb.2 2; have e3 := free_of qb.2 3; have e4 := free_of qb.2 4; have e5 := free_of qb.2 5; have d0 := cell_of qb.1 0 _ rfl; have d1 := cell_of qb.1 1 _ rfl; have d2 := cell_of qb.1 2 _ rfl; have d3 := cell_of qb.1 3 _ rfl; have d4 := cell_of qb.1 4 _ rfl; have d5 := cell_of qb.1 5 _ rfl; have g0 := free_of qb.1 0; have g1 := free_of qb.1 1; have g2 := free_of qb.1 2; have g3 := free_of qb.1 3; have g4 := free_of qb.1 4; have g5 := free_of qb.1 5; have m0 := lt_of_block qb.1; have m1 := lt_of_block qb.2; clear qb
         clear ha ht))
    obtain ⟨z1, z2⟩ := six_put (w1.setCell ⟨w.heap.size + 1, 1, none⟩ (.int .i64 v1)) w.heap.size _ _ _ _ _ _ (.int .i64 12) (.int .i64 v1) (.int .i64 0) (.int .i64 0) (.slice none 0 0) (.string ⟨#[]⟩) ((Go.Mine.heap_setCell_ne _ (by simp)).trans B1.out.1.1)
    refine ques_ret rfl z1 ?_
    have ts : Turned (fun x => x = w.heap.size ∨ x = w.heap.size + 1) w1 _ := ((Turned.refl (· = w.heap.size + 1) w1).set (p := ⟨w.heap.size + 1, 1, none⟩) rfl (.int .i64 v1)).comp z2 fun b hb q => q.symm
    exact ⟨⟨none, 0, rfl, Sl.nil _ _ _ _⟩, B1.out.2.2.other ts fun b q => by have := B1.out.2.2.low; have := HP.out; omega, B1.out.2.1.comp ts fun b hb q => q.elim id fun q => by omega⟩

set_option maxRecDepth 100000 in
theorem ques_0 (w0 w : World) (p : Nat) (s : B) (h : At w0 w p s) : Calls Tryz.prog 57 #[pt p, .int .i64 0] w (QuesPost w0 w p none) := by
  clear h
  go_enter Tryz.func57, Tryz.ntmps57
  go_wp2
  exact ⟨rfl, rfl, ((Turned.refl (· = p) w).new _).new _⟩

theorem ques_any (k : Int) (hk : k = 0 ∨ k = 1 ∨ k = 2 ∨ k = 3 ∨ k = 4 ∨ k = 5 ∨ k = 6 ∨ k = 7 ∨ k = 8 ∨ k = 9 ∨ k = 10 ∨ k = 11 ∨ k = 12) (w0 w : World) (p : Nat) (s : B) (h : At w0 w p s) :
    Calls Tryz.prog 57 #[pt p, .int .i64 k] w (QuesPost w0 w p (pQues k s)) := by
  unfold pQues
  by_cases g1 : k = 1 ∨ k = 3 ∨ k = 4
  · rw [if_pos g1]
    cases h1 : pNum s with
    | none => exact ques_nn0 k g1 w0 w p s h h1
    | some x =>
      obtain ⟨a, r⟩ := x
      simp only []
      cases h2 : pNum r with
      | none => exact ques_nn1 k g1 w0 w p s h a r h1 h2
      | some y => exact ques_nn2 k g1 w0 w p s h a r h1 y.1 y.2 h2
  rw [if_neg g1]
  by_cases g2 : k = 2 ∨ k = 5 ∨ k = 6
  · rw [if_pos g2]
    cases h1 : pNums s with
    | none => exact ques_s0 k g2 w0 w p s h h1
    | some l => exact ques_s1 k g2 w0 w p s h l h1
  rw [if_neg g2]
  by_cases g3 : k = 7 ∨ k = 8
  · rw [if_pos g3]
    cases h1 : pNum s with
    | none => exact ques_nt0 k g3 w0 w p s h h1
    | some x =>
      obtain ⟨a, r⟩ := x
      simp only []
      cases h2 : pText r with
      | none => exact ques_nt1 k g3 w0 w p s h a r h1 h2
      | some y => exact ques_nt2 k g3 w0 w p s h a r h1 y.1 y.2 h2
  rw [if_neg g3]
  by_cases g4 : k = 9 ∨ k = 10
  · rw [if_pos g4]
    cases h1 : pNum s with
    | none => exact ques_nnn0 k g4 w0 w p s h h1
    | some x =>
      obtain ⟨a, r⟩ := x
      simp only []
      cases h2 : pNum r with
      | none => exact ques_nnn1 k g4 w0 w p s h a r h1 h2
      | some y =>
        obtain ⟨b, r2⟩ := y
        simp only []
        cases h3 : pNum r2 with
        | none => exact ques_nnn2 k g4 w0 w p s h a r h1 b r2 h2 h3
        | some z => exact ques_nnn3 k g4 w0 w p s h a r h1 b r2 h2 z.1 z.2 h3
  rw [if_neg g4]
  by_cases g5 : k = 11 ∨ k = 12
  · rw [if_pos g5]
    cases h1 : pNum s with
    | none => exact ques_n0 k g5 w0 w p s h h1
    | some x => exact ques_n1 k g5 w0 w p s h x.1 x.2 h1
  rw [if_neg g5]
  have : k = 0 := by omega
  subst this
  exact ques_0 w0 w p s h
end Go.Proofs.YteblabpplaaddaaGreatDoor
