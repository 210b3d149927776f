/- A line's command: the walk of command: numbers, entries, a question (printed by gen_cp.py). -/
import Derived.Test.YteblabpplaaddaaGreatDoorCo
set_option linter.unusedVariables false
set_option linter.unusedSimpArgs false
namespace Go.Proofs.YteblabpplaaddaaGreatDoor
open Go.RowKit Go.Mine Go.Mine.Sc

set_option maxRecDepth 100000 in
set_option maxHeartbeats 1000000 in
theorem cmd_3_0 (w0 w : World) (p : Nat) (s : B) (h : At w0 w p s) (hk : kindIn cnames (tok s) = 3) (h1 : pNum (aft s) = none) :
    Calls Tryz.prog 30 #[pt p] w (CmdPost w p (none)) := by
  have BG := Begin.of h hk
  have NA : Hid (∀ W, Turned (fun _ => False) w W → Calls Tryz.prog 49 #[pt p] W fun e w' => e = .returned (.string (bs (tok s))) ∧ At w0 w' p (aft s) ∧ Turned (· = p) W w') := BG.name
  have FI : Hid (∀ W bm, W.heap[bm]? = some (.map (mapEa cnames) 13) → Calls Tryz.prog 50 #[.map (some bm), .string (bs (tok s))] W fun e w' => e = .returned (.int .i64 3) ∧ Turned (fun _ => False) W w') := BG.find
  have LO : Hid (p < w.heap.size) := BG.low
  have N1 : Hid (∀ b1 cs u1 l W, CS w0 w p b1 cs u1 l (.slice none 0 0) [] (aft s) W → Calls Tryz.prog 52 #[pt p] W fun e w' =>  e = .panicked [wrongE] ∧ Turned (· = p) w w') := fun _ _ _ _ _ c => c.num_no h1
  clear h hk BG h1
  go_enter Tryz.func30, Tryz.ntmps30
  go_wp2_with (first
    | (go_at_call 49; (with_reducible refine (NA.out _ ((Turned.refl (fun _ => False) w).new _)).mono ?_); rintro e w1 ⟨rfl, ha, ht⟩
       have X1 : Hid (At w0 w1 p (aft s) ∧ Turned (· = p) w w1 ∧ w1.heap[w.heap.size]? = some (.cells zero11 39 (0, 0))) := ⟨ha, ((Turned.refl (· = p) w).new _).trans ht fun _ _ q => q, (ht.block _ (by simp) (by have := LO.out; omega)).trans (heap_alloc_new w _)⟩
       have q51 := names_any w1
       clear ha ht)
    | (go_at_call 51; (with_reducible refine q51.mono ?_); rintro e w2 ⟨rfl, hm, ht⟩
       have X2 : Hid (Turned (fun _ => False) w1 w2) := ht
       have q50 := FI.out w2 w1.heap.size hm
       clear hm ht q51)
    | (go_at_call 50; (with_reducible refine q50.mono ?_); rintro e w3 ⟨rfl, ht⟩
       have C0 : Hid (CS w0 w p w3.heap.size #[.int .i64 3, .slice none 0 0, .string ⟨#[]⟩, .string ⟨#[]⟩, .slice none 0 0, .int .i64 0, .int .i64 0, .int .i64 0, .int .i64 0, .slice none 0 0, .string ⟨#[]⟩] (.slice none 0 0) [] (.slice none 0 0) [] (aft s) (w3.alloc (.cells #[.int .i64 3, .slice none 0 0, .string ⟨#[]⟩, .string ⟨#[]⟩, .slice none 0 0, .int .i64 0, .int .i64 0, .int .i64 0, .int .i64 0, .slice none 0 0, .string ⟨#[]⟩] 39))) := CS.first (k := 3) (X1.out.1.turned (X2.out.trans ht fun _ _ q => q)) (X1.out.2.1.trans (X2.out.trans ht fun _ _ q => q) fun _ _ q => q.elim) (((X2.out.trans ht fun _ _ q => q).block _ (lt_of_block X1.out.2.2) id).trans X1.out.2.2) LO.out
       clear ht q50)
    | (go_at_call 52; (with_reducible refine (N1.out _ _ _ _ _ (C0.out)).mono ?_); rintro e w4 ⟨rfl, ht⟩))
  exact ⟨rfl, rfl, ht⟩

set_option maxRecDepth 100000 in
set_option maxHeartbeats 1000000 in
theorem cmd_3_1 (w0 w : World) (p : Nat) (s : B) (h : At w0 w p s) (hk : kindIn cnames (tok s) = 3) (v1 : Int) (r1 : B) (h1 : pNum (aft s) = some (v1, r1)) (h2 : pNums r1 = none):
    Calls Tryz.prog 30 #[pt p] w (CmdPost w p (none)) := by
  have BG := Begin.of h hk
  have NA : Hid (∀ W, Turned (fun _ => False) w W → Calls Tryz.prog 49 #[pt p] W fun e w' => e = .returned (.string (bs (tok s))) ∧ At w0 w' p (aft s) ∧ Turned (· = p) W w') := BG.name
  have FI : Hid (∀ W bm, W.heap[bm]? = some (.map (mapEa cnames) 13) → Calls Tryz.prog 50 #[.map (some bm), .string (bs (tok s))] W fun e w' => e = .returned (.int .i64 3) ∧ Turned (fun _ => False) W w') := BG.find
  have LO : Hid (p < w.heap.size) := BG.low
  have N1 : Hid (∀ b1 cs u1 l W, CS w0 w p b1 cs u1 l (.slice none 0 0) [] (aft s) W → Calls Tryz.prog 52 #[pt p] W fun e w' => e = .returned (.int .i64 v1) ∧ CS w0 w p b1 cs u1 l (.slice none 0 0) [] r1 w') := fun _ _ _ _ _ c => c.num h1
  have N2 : Hid (∀ b1 cs u1 l W, CS w0 w p b1 cs u1 l (.slice none 0 0) [] r1 W → Calls Tryz.prog 56 #[pt p] W fun e w' => e = .panicked [wrongE] ∧ Turned (· = p) w w') := fun _ _ _ _ _ c => c.numsC_no h2
  clear h hk BG h1 h2
  go_enter Tryz.func30, Tryz.ntmps30
  go_wp2_with (first
    | (go_at_call 49; (with_reducible refine (NA.out _ ((Turned.refl (fun _ => False) w).new _)).mono ?_); rintro e w1 ⟨rfl, ha, ht⟩
       have X1 : Hid (At w0 w1 p (aft s) ∧ Turned (· = p) w w1 ∧ w1.heap[w.heap.size]? = some (.cells zero11 39 (0, 0))) := ⟨ha, ((Turned.refl (· = p) w).new _).trans ht fun _ _ q => q, (ht.block _ (by simp) (by have := LO.out; omega)).trans (heap_alloc_new w _)⟩
       have q51 := names_any w1
       clear ha ht)
    | (go_at_call 51; (with_reducible refine q51.mono ?_); rintro e w2 ⟨rfl, hm, ht⟩
       have X2 : Hid (Turned (fun _ => False) w1 w2) := ht
       have q50 := FI.out w2 w1.heap.size hm
       clear hm ht q51)
    | (go_at_call 50; (with_reducible refine q50.mono ?_); rintro e w3 ⟨rfl, ht⟩
       have C0 : Hid (CS w0 w p w3.heap.size #[.int .i64 3, .slice none 0 0, .string ⟨#[]⟩, .string ⟨#[]⟩, .slice none 0 0, .int .i64 0, .int .i64 0, .int .i64 0, .int .i64 0, .slice none 0 0, .string ⟨#[]⟩] (.slice none 0 0) [] (.slice none 0 0) [] (aft s) (w3.alloc (.cells #[.int .i64 3, .slice none 0 0, .string ⟨#[]⟩, .string ⟨#[]⟩, .slice none 0 0, .int .i64 0, .int .i64 0, .int .i64 0, .int .i64 0, .slice none 0 0, .string ⟨#[]⟩] 39))) := CS.first (k := 3) (X1.out.1.turned (X2.out.trans ht fun _ _ q => q)) (X1.out.2.1.trans (X2.out.trans ht fun _ _ q => q) fun _ _ q => q.elim) (((X2.out.trans ht fun _ _ q => q).block _ (lt_of_block X1.out.2.2) id).trans X1.out.2.2) LO.out
       clear ht q50)
    | (go_at_call 52; (with_reducible refine (N1.out _ _ _ _ _ C0.out).mono ?_); rintro e w4 ⟨rfl, hc⟩
       have C1 : Hid (CS w0 w p w3.heap.size #[.int .i64 3, .slice none 0 0, .string ⟨#[]⟩, .string ⟨#[]⟩, .slice none 0 0, .int .i64 0, .int .i64 0, .int .i64 0, .int .i64 0, .slice none 0 0, .string ⟨#[]⟩] (.slice none 0 0) [] (.slice none 0 0) [] r1 w4) := hc
       clear hc)
    | (go_at_call 56; (with_reducible refine (N2.out _ _ _ _ _ ((C1.out.new (.cells #[.int .i64 v1] 3)).withNums (sl_one w4 v1 ⟨Nat.lt_of_lt_of_le C1.out.hi (Nat.le_of_lt (lt_of_block C1.out.box)), Nat.ne_of_gt (lt_of_block C1.out.box)⟩))).mono ?_); rintro e w5 ⟨rfl, ht⟩))
  exact ⟨rfl, rfl, ht⟩

set_option maxRecDepth 100000 in
set_option maxHeartbeats 1000000 in
theorem cmd_3_end (w0 w : World) (p : Nat) (s : B) (h : At w0 w p s) (hk : kindIn cnames (tok s) = 3) (v1 : Int) (r1 : B) (h1 : pNum (aft s) = some (v1, r1)) (v2 : List Int) (h2 : pNums r1 = some v2):
    Calls Tryz.prog 30 #[pt p] w (CmdPost w p (some { kind := 3, nums := v1 :: v2 })) := by
  have hlen : v2.length ≤ 1000000 := Nat.le_trans (pNums_len h2) (Nat.le_trans (Nat.le_of_lt (pNum_lt h1)) (Nat.le_trans (aft_le s) h.len))
  have BG := Begin.of h hk
  have NA : Hid (∀ W, Turned (fun _ => False) w W → Calls Tryz.prog 49 #[pt p] W fun e w' => e = .returned (.string (bs (tok s))) ∧ At w0 w' p (aft s) ∧ Turned (· = p) W w') := BG.name
  have FI : Hid (∀ W bm, W.heap[bm]? = some (.map (mapEa cnames) 13) → Calls Tryz.prog 50 #[.map (some bm), .string (bs (tok s))] W fun e w' => e = .returned (.int .i64 3) ∧ Turned (fun _ => False) W w') := BG.find
  have LO : Hid (p < w.heap.size) := BG.low
  have N1 : Hid (∀ b1 cs u1 l W, CS w0 w p b1 cs u1 l (.slice none 0 0) [] (aft s) W → Calls Tryz.prog 52 #[pt p] W fun e w' => e = .returned (.int .i64 v1) ∧ CS w0 w p b1 cs u1 l (.slice none 0 0) [] r1 w') := fun _ _ _ _ _ c => c.num h1
  have N2 : Hid (∀ b1 cs u1 l W, CS w0 w p b1 cs u1 l (.slice none 0 0) [] r1 W → Calls Tryz.prog 56 #[pt p] W fun e w' => ∃ a cap, e = .returned (.slice a v2.length cap) ∧ Sl w' (fun b => W.heap.size ≤ b) 3 1 (.slice a v2.length cap) (icells v2) v2.length ∧ CS w0 w p b1 cs u1 l (.slice none 0 0) [] [] w') := fun _ _ _ _ _ c => c.numsC h2
  have M : Hid (∀ b1 cs u1 l W, CS w0 w p b1 cs u1 l (.slice none 0 0) [] [] W → Calls Tryz.prog 53 #[pt p] W fun e w' => e = .returned (.bool false) ∧ w' = W) := fun _ _ _ _ _ c => c.more_end
  have m1 : Hid (1 + v2.length ≤ maxLen ∧ (1 + v2.length) * 8 ≤ 140737488355328) := (by simp only [maxLen]; omega : 1 + v2.length ≤ maxLen ∧ (1 + v2.length) * 8 ≤ 140737488355328)
  clear hlen
  clear h hk BG h1 h2
  go_enter Tryz.func30, Tryz.ntmps30
  go_upto_region 33 with (first
    | (go_at_call 49; (with_reducible refine (NA.out _ ((Turned.refl (fun _ => False) w).new _)).mono ?_); rintro e w1 ⟨rfl, ha, ht⟩
       have X1 : Hid (At w0 w1 p (aft s) ∧ Turned (· = p) w w1 ∧ w1.heap[w.heap.size]? = some (.cells zero11 39 (0, 0))) := ⟨ha, ((Turned.refl (· = p) w).new _).trans ht fun _ _ q => q, (ht.block _ (by simp) (by have := LO.out; omega)).trans (heap_alloc_new w _)⟩
       have q51 := names_any w1
       clear ha ht)
    | (go_at_call 51; (with_reducible refine q51.mono ?_); rintro e w2 ⟨rfl, hm, ht⟩
       have X2 : Hid (Turned (fun _ => False) w1 w2) := ht
       have q50 := FI.out w2 w1.heap.size hm
       clear hm ht q51)
    | (go_at_call 50; (with_reducible refine q50.mono ?_); rintro e w3 ⟨rfl, ht⟩
       have C0 : Hid (CS w0 w p w3.heap.size #[.int .i64 3, .slice none 0 0, .string ⟨#[]⟩, .string ⟨#[]⟩, .slice none 0 0, .int .i64 0, .int .i64 0, .int .i64 0, .int .i64 0, .slice none 0 0, .string ⟨#[]⟩] (.slice none 0 0) [] (.slice none 0 0) [] (aft s) (w3.alloc (.cells #[.int .i64 3, .slice none 0 0, .string ⟨#[]⟩, .string ⟨#[]⟩, .slice none 0 0, .int .i64 0, .int .i64 0, .int .i64 0, .int .i64 0, .slice none 0 0, .string ⟨#[]⟩] 39))) := CS.first (k := 3) (X1.out.1.turned (X2.out.trans ht fun _ _ q => q)) (X1.out.2.1.trans (X2.out.trans ht fun _ _ q => q) fun _ _ q => q.elim) (((X2.out.trans ht fun _ _ q => q).block _ (lt_of_block X1.out.2.2) id).trans X1.out.2.2) LO.out
       clear ht q50)
    | (go_at_call 52; (with_reducible refine (N1.out _ _ _ _ _ C0.out).mono ?_); rintro e w4 ⟨rfl, hc⟩
       have C1 : Hid (CS w0 w p w3.heap.size #[.int .i64 3, .slice none 0 0, .string ⟨#[]⟩, .string ⟨#[]⟩, .slice none 0 0, .int .i64 0, .int .i64 0, .int .i64 0, .int .i64 0, .slice none 0 0, .string ⟨#[]⟩] (.slice none 0 0) [] (.slice none 0 0) [] r1 w4) := hc
       clear hc)
    | (go_at_call 56; (with_reducible refine (N2.out _ _ _ _ _ ((C1.out.new (.cells #[.int .i64 v1] 3)).withNums (sl_one w4 v1 ⟨Nat.lt_of_lt_of_le C1.out.hi (Nat.le_of_lt (lt_of_block C1.out.box)), Nat.ne_of_gt (lt_of_block C1.out.box)⟩))).mono ?_); rintro e w5 ⟨a5, c5, rfl, hs, hc⟩
       have C2 : Hid (CS w0 w p w3.heap.size #[.int .i64 3, .slice none 0 0, .string ⟨#[]⟩, .string ⟨#[]⟩, .slice none 0 0, .int .i64 0, .int .i64 0, .int .i64 0, .int .i64 0, .slice none 0 0, .string ⟨#[]⟩] (.slice (some ⟨w4.heap.size, 0, none⟩) 1 1) [v1] (.slice none 0 0) [] [] w5 ∧ Sl w5 (fun b => (w4.alloc (.cells #[.int .i64 v1] 3)).heap.size ≤ b) 3 1 (.slice a5 v2.length c5) (icells v2) v2.length) := ⟨hc, hs⟩
       clear hs hc)
    | (at_builtin; refine wpList_append rfl _ _ 34 34 rfl C2.out.1.nums Tryz.underlying34 info3 rfl (by decide) rfl (.slice a5 v2.length c5) rfl (C2.out.2.src Tryz.underlying34 (icells_one v2)) m1.out.1 m1.out.2 ?_
       intro x6 w6 q6 t6
       obtain ⟨a6, c6, hv6, -, -⟩ := q6.value
       subst hv6
       have C3 : Hid (CS w0 w p w3.heap.size #[.int .i64 3, .slice none 0 0, .string ⟨#[]⟩, .string ⟨#[]⟩, .slice none 0 0, .int .i64 0, .int .i64 0, .int .i64 0, .int .i64 0, .slice none 0 0, .string ⟨#[]⟩] (.slice a6 (v1 :: v2).length c6) (v1 :: v2) (.slice none 0 0) [] [] w6) := C2.out.1.app t6 (by
         have hb := lt_of_block C2.out.1.box
         have hi := C2.out.1.hi
         rw [List.length_cons, Nat.add_comm v2.length 1]
         exact q6.widen fun b q => q.elim id fun q => by omega) (Sl.nil _ _ _ _)
       have k1 := cell_of C3.out.box 1 _ rfl; have f1 := free_of C3.out.box 1; have m2 := lt_of_block C3.out.box
       clear q6 t6)
    | (go_at_call 53; (with_reducible refine (M.out _ _ _ _ _ (C3.out.put 1 (.slice a6 (1 + v2.length) c6))).mono ?_); rintro e w9 ⟨rfl, rfl⟩))
  refine wp_region_lit ?_
  refine wpList_load_row rfl 39 _ rfl w3.heap.size rfl 39 #[.int .i64 3, .slice a6 (1 + v2.length) c6, .string ⟨#[]⟩, .string ⟨#[]⟩, .slice none 0 0, .int .i64 0, .int .i64 0, .int .i64 0, .int .i64 0, .slice none 0 0, .string ⟨#[]⟩] (0, 0) _ ((C3.out.put 1 (.slice a6 (1 + v2.length) c6))).box Tryz.underlying39 rfl info39 ?_
  refine wpList_store_row rfl 39 _ _ rfl w.heap.size #[.int .i64 3, .slice a6 (1 + v2.length) c6, .string ⟨#[]⟩, .string ⟨#[]⟩, .slice none 0 0, .int .i64 0, .int .i64 0, .int .i64 0, .int .i64 0, .slice none 0 0, .string ⟨#[]⟩] zero11 39 rfl rfl ((C3.out.put 1 (.slice a6 (1 + v2.length) c6))).res info39 rfl (by simp [Value.oneCell']) ?_
  intro wE hE htE _
  go_wp2
  refine cmd_ret rfl hE ?_
  have F := CS.fin (c := { kind := 3, nums := v1 :: v2 }) (C3.out.put 1 (.slice a6 (1 + v2.length) c6)) htE (Sl.nil _ _ _ _)
  refine ⟨⟨_, ?_, F.1⟩, F.2⟩
  rw [show 1 + v2.length = v2.length + 1 from Nat.add_comm _ _]
  rfl

set_option maxRecDepth 100000 in
set_option maxHeartbeats 1000000 in
theorem cmd_8_0 (w0 w : World) (p : Nat) (s : B) (h : At w0 w p s) (hk : kindIn cnames (tok s) = 8) (h1 : pNum (aft s) = none) :
    Calls Tryz.prog 30 #[pt p] w (CmdPost w p (none)) := by
  have BG := Begin.of h hk
  have NA : Hid (∀ W, Turned (fun _ => False) w W → Calls Tryz.prog 49 #[pt p] W fun e w' => e = .returned (.string (bs (tok s))) ∧ At w0 w' p (aft s) ∧ Turned (· = p) W w') := BG.name
  have FI : Hid (∀ W bm, W.heap[bm]? = some (.map (mapEa cnames) 13) → Calls Tryz.prog 50 #[.map (some bm), .string (bs (tok s))] W fun e w' => e = .returned (.int .i64 8) ∧ Turned (fun _ => False) W w') := BG.find
  have LO : Hid (p < w.heap.size) := BG.low
  have N1 : Hid (∀ b1 cs u1 l W, CS w0 w p b1 cs u1 l (.slice none 0 0) [] (aft s) W → Calls Tryz.prog 52 #[pt p] W fun e w' =>  e = .panicked [wrongE] ∧ Turned (· = p) w w') := fun _ _ _ _ _ c => c.num_no h1
  clear h hk BG h1
  go_enter Tryz.func30, Tryz.ntmps30
  go_wp2_with (first
    | (go_at_call 49; (with_reducible refine (NA.out _ ((Turned.refl (fun _ => False) w).new _)).mono ?_); rintro e w1 ⟨rfl, ha, ht⟩
       have X1 : Hid (At w0 w1 p (aft s) ∧ Turned (· = p) w w1 ∧ w1.heap[w.heap.size]? = some (.cells zero11 39 (0, 0))) := ⟨ha, ((Turned.refl (· = p) w).new _).trans ht fun _ _ q => q, (ht.block _ (by simp) (by have := LO.out; omega)).trans (heap_alloc_new w _)⟩
       have q51 := names_any w1
       clear ha ht)
    | (go_at_call 51; (with_reducible refine q51.mono ?_); rintro e w2 ⟨rfl, hm, ht⟩
       have X2 : Hid (Turned (fun _ => False) w1 w2) := ht
       have q50 := FI.out w2 w1.heap.size hm
       clear hm ht q51)
    | (go_at_call 50; (with_reducible refine q50.mono ?_); rintro e w3 ⟨rfl, ht⟩
       have C0 : Hid (CS w0 w p w3.heap.size #[.int .i64 8, .slice none 0 0, .string ⟨#[]⟩, .string ⟨#[]⟩, .slice none 0 0, .int .i64 0, .int .i64 0, .int .i64 0, .int .i64 0, .slice none 0 0, .string ⟨#[]⟩] (.slice none 0 0) [] (.slice none 0 0) [] (aft s) (w3.alloc (.cells #[.int .i64 8, .slice none 0 0, .string ⟨#[]⟩, .string ⟨#[]⟩, .slice none 0 0, .int .i64 0, .int .i64 0, .int .i64 0, .int .i64 0, .slice none 0 0, .string ⟨#[]⟩] 39))) := CS.first (k := 8) (X1.out.1.turned (X2.out.trans ht fun _ _ q => q)) (X1.out.2.1.trans (X2.out.trans ht fun _ _ q => q) fun _ _ q => q.elim) (((X2.out.trans ht fun _ _ q => q).block _ (lt_of_block X1.out.2.2) id).trans X1.out.2.2) LO.out
       clear ht q50)
    | (go_at_call 52; (with_reducible refine (N1.out _ _ _ _ _ (C0.out)).mono ?_); rintro e w4 ⟨rfl, ht⟩))
  exact ⟨rfl, rfl, ht⟩

set_option maxRecDepth 100000 in
set_option maxHeartbeats 1000000 in
theorem cmd_8_1 (w0 w : World) (p : Nat) (s : B) (h : At w0 w p s) (hk : kindIn cnames (tok s) = 8) (v1 : Int) (r1 : B) (h1 : pNum (aft s) = some (v1, r1)) (h2 : pNums r1 = none):
    Calls Tryz.prog 30 #[pt p] w (CmdPost w p (none)) := by
  have BG := Begin.of h hk
  have NA : Hid (∀ W, Turned (fun _ => False) w W → Calls Tryz.prog 49 #[pt p] W fun e w' => e = .returned (.string (bs (tok s))) ∧ At w0 w' p (aft s) ∧ Turned (· = p) W w') := BG.name
  have FI : Hid (∀ W bm, W.heap[bm]? = some (.map (mapEa cnames) 13) → Calls Tryz.prog 50 #[.map (some bm), .string (bs (tok s))] W fun e w' => e = .returned (.int .i64 8) ∧ Turned (fun _ => False) W w') := BG.find
  have LO : Hid (p < w.heap.size) := BG.low
  have N1 : Hid (∀ b1 cs u1 l W, CS w0 w p b1 cs u1 l (.slice none 0 0) [] (aft s) W → Calls Tryz.prog 52 #[pt p] W fun e w' => e = .returned (.int .i64 v1) ∧ CS w0 w p b1 cs u1 l (.slice none 0 0) [] r1 w') := fun _ _ _ _ _ c => c.num h1
  have N2 : Hid (∀ b1 cs u1 l W, CS w0 w p b1 cs u1 l (.slice none 0 0) [] r1 W → Calls Tryz.prog 56 #[pt p] W fun e w' => e = .panicked [wrongE] ∧ Turned (· = p) w w') := fun _ _ _ _ _ c => c.numsC_no h2
  clear h hk BG h1 h2
  go_enter Tryz.func30, Tryz.ntmps30
  go_wp2_with (first
    | (go_at_call 49; (with_reducible refine (NA.out _ ((Turned.refl (fun _ => False) w).new _)).mono ?_); rintro e w1 ⟨rfl, ha, ht⟩
       have X1 : Hid (At w0 w1 p (aft s) ∧ Turned (· = p) w w1 ∧ w1.heap[w.heap.size]? = some (.cells zero11 39 (0, 0))) := ⟨ha, ((Turned.refl (· = p) w).new _).trans ht fun _ _ q => q, (ht.block _ (by simp) (by have := LO.out; omega)).trans (heap_alloc_new w _)⟩
       have q51 := names_any w1
       clear ha ht)
    | (go_at_call 51; (with_reducible refine q51.mono ?_); rintro e w2 ⟨rfl, hm, ht⟩
       have X2 : Hid (Turned (fun _ => False) w1 w2) := ht
       have q50 := FI.out w2 w1.heap.size hm
       clear hm ht q51)
    | (go_at_call 50; (with_reducible refine q50.mono ?_); rintro e w3 ⟨rfl, ht⟩
       have C0 : Hid (CS w0 w p w3.heap.size #[.int .i64 8, .slice none 0 0, .string ⟨#[]⟩, .string ⟨#[]⟩, .slice none 0 0, .int .i64 0, .int .i64 0, .int .i64 0, .int .i64 0, .slice none 0 0, .string ⟨#[]⟩] (.slice none 0 0) [] (.slice none 0 0) [] (aft s) (w3.alloc (.cells #[.int .i64 8, .slice none 0 0, .string ⟨#[]⟩, .string ⟨#[]⟩, .slice none 0 0, .int .i64 0, .int .i64 0, .int .i64 0, .int .i64 0, .slice none 0 0, .string ⟨#[]⟩] 39))) := CS.first (k := 8) (X1.out.1.turned (X2.out.trans ht fun _ _ q => q)) (X1.out.2.1.trans (X2.out.trans ht fun _ _ q => q) fun _ _ q => q.elim) (((X2.out.trans ht fun _ _ q => q).block _ (lt_of_block X1.out.2.2) id).trans X1.out.2.2) LO.out
       clear ht q50)
    | (go_at_call 52; (with_reducible refine (N1.out _ _ _ _ _ C0.out).mono ?_); rintro e w4 ⟨rfl, hc⟩
       have C1 : Hid (CS w0 w p w3.heap.size #[.int .i64 8, .slice none 0 0, .string ⟨#[]⟩, .string ⟨#[]⟩, .slice none 0 0, .int .i64 0, .int .i64 0, .int .i64 0, .int .i64 0, .slice none 0 0, .string ⟨#[]⟩] (.slice none 0 0) [] (.slice none 0 0) [] r1 w4) := hc
       clear hc)
    | (go_at_call 56; (with_reducible refine (N2.out _ _ _ _ _ ((C1.out.new (.cells #[.int .i64 v1] 3)).withNums (sl_one w4 v1 ⟨Nat.lt_of_lt_of_le C1.out.hi (Nat.le_of_lt (lt_of_block C1.out.box)), Nat.ne_of_gt (lt_of_block C1.out.box)⟩))).mono ?_); rintro e w5 ⟨rfl, ht⟩))
  exact ⟨rfl, rfl, ht⟩

set_option maxRecDepth 100000 in
set_option maxHeartbeats 1000000 in
theorem cmd_8_end (w0 w : World) (p : Nat) (s : B) (h : At w0 w p s) (hk : kindIn cnames (tok s) = 8) (v1 : Int) (r1 : B) (h1 : pNum (aft s) = some (v1, r1)) (v2 : List Int) (h2 : pNums r1 = some v2):
    Calls Tryz.prog 30 #[pt p] w (CmdPost w p (some { kind := 8, nums := v1 :: v2 })) := by
  have hlen : v2.length ≤ 1000000 := Nat.le_trans (pNums_len h2) (Nat.le_trans (Nat.le_of_lt (pNum_lt h1)) (Nat.le_trans (aft_le s) h.len))
  have BG := Begin.of h hk
  have NA : Hid (∀ W, Turned (fun _ => False) w W → Calls Tryz.prog 49 #[pt p] W fun e w' => e = .returned (.string (bs (tok s))) ∧ At w0 w' p (aft s) ∧ Turned (· = p) W w') := BG.name
  have FI : Hid (∀ W bm, W.heap[bm]? = some (.map (mapEa cnames) 13) → Calls Tryz.prog 50 #[.map (some bm), .string (bs (tok s))] W fun e w' => e = .returned (.int .i64 8) ∧ Turned (fun _ => False) W w') := BG.find
  have LO : Hid (p < w.heap.size) := BG.low
  have N1 : Hid (∀ b1 cs u1 l W, CS w0 w p b1 cs u1 l (.slice none 0 0) [] (aft s) W → Calls Tryz.prog 52 #[pt p] W fun e w' => e = .returned (.int .i64 v1) ∧ CS w0 w p b1 cs u1 l (.slice none 0 0) [] r1 w') := fun _ _ _ _ _ c => c.num h1
  have N2 : Hid (∀ b1 cs u1 l W, CS w0 w p b1 cs u1 l (.slice none 0 0) [] r1 W → Calls Tryz.prog 56 #[pt p] W fun e w' => ∃ a cap, e = .returned (.slice a v2.length cap) ∧ Sl w' (fun b => W.heap.size ≤ b) 3 1 (.slice a v2.length cap) (icells v2) v2.length ∧ CS w0 w p b1 cs u1 l (.slice none 0 0) [] [] w') := fun _ _ _ _ _ c => c.numsC h2
  have M : Hid (∀ b1 cs u1 l W, CS w0 w p b1 cs u1 l (.slice none 0 0) [] [] W → Calls Tryz.prog 53 #[pt p] W fun e w' => e = .returned (.bool false) ∧ w' = W) := fun _ _ _ _ _ c => c.more_end
  have m1 : Hid (1 + v2.length ≤ maxLen ∧ (1 + v2.length) * 8 ≤ 140737488355328) := (by simp only [maxLen]; omega : 1 + v2.length ≤ maxLen ∧ (1 + v2.length) * 8 ≤ 140737488355328)
  clear hlen
  clear h hk BG h1 h2
  go_enter Tryz.func30, Tryz.ntmps30
  go_upto_region 33 with (first
    | (go_at_call 49; (with_reducible refine (NA.out _ ((Turned.refl (fun _ => False) w).new _)).mono ?_); rintro e w1 ⟨rfl, ha, ht⟩
       have X1 : Hid (At w0 w1 p (aft s) ∧ Turned (· = p) w w1 ∧ w1.heap[w.heap.size]? = some (.cells zero11 39 (0, 0))) := ⟨ha, ((Turned.refl (· = p) w).new _).trans ht fun _ _ q => q, (ht.block _ (by simp) (by have := LO.out; omega)).trans (heap_alloc_new w _)⟩
       have q51 := names_any w1
       clear ha ht)
    | (go_at_call 51; (with_reducible refine q51.mono ?_); rintro e w2 ⟨rfl, hm, ht⟩
       have X2 : Hid (Turned (fun _ => False) w1 w2) := ht
       have q50 := FI.out w2 w1.heap.size hm
       clear hm ht q51)
    | (go_at_call 50; (with_reducible refine q50.mono ?_); rintro e w3 ⟨rfl, ht⟩
       have C0 : Hid (CS w0 w p w3.heap.size #[.int .i64 8, .slice none 0 0, .string ⟨#[]⟩, .string ⟨#[]⟩, .slice none 0 0, .int .i64 0, .int .i64 0, .int .i64 0, .int .i64 0, .slice none 0 0, .string ⟨#[]⟩] (.slice none 0 0) [] (.slice none 0 0) [] (aft s) (w3.alloc (.cells #[.int .i64 8, .slice none 0 0, .string ⟨#[]⟩, .string ⟨#[]⟩, .slice none 0 0, .int .i64 0, .int .i64 0, .int .i64 0, .int .i64 0, .slice none 0 0, .string ⟨#[]⟩] 39))) := CS.first (k := 8) (X1.out.1.turned (X2.out.trans ht fun _ _ q => q)) (X1.out.2.1.trans (X2.out.trans ht fun _ _ q => q) fun _ _ q => q.elim) (((X2.out.trans ht fun _ _ q => q).block _ (lt_of_block X1.out.2.2) id).trans X1.out.2.2) LO.out
       clear ht q50)
    | (go_at_call 52; (with_reducible refine (N1.out _ _ _ _ _ C0.out).mono ?_); rintro e w4 ⟨rfl, hc⟩
       have C1 : Hid (CS w0 w p w3.heap.size #[.int .i64 8, .slice none 0 0, .string ⟨#[]⟩, .string ⟨#[]⟩, .slice none 0 0, .int .i64 0, .int .i64 0, .int .i64 0, .int .i64 0, .slice none 0 0, .string ⟨#[]⟩] (.slice none 0 0) [] (.slice none 0 0) [] r1 w4) := hc
       clear hc)
    | (go_at_call 56; (with_reducible refine (N2.out _ _ _ _ _ ((C1.out.new (.cells #[.int .i64 v1] 3)).withNums (sl_one w4 v1 ⟨Nat.lt_of_lt_of_le C1.out.hi (Nat.le_of_lt (lt_of_block C1.out.box)), Nat.ne_of_gt (lt_of_block C1.out.box)⟩))).mono ?_); rintro e w5 ⟨a5, c5, rfl, hs, hc⟩
       have C2 : Hid (CS w0 w p w3.heap.size #[.int .i64 8, .slice none 0 0, .string ⟨#[]⟩, .string ⟨#[]⟩, .slice none 0 0, .int .i64 0, .int .i64 0, .int .i64 0, .int .i64 0, .slice none 0 0, .string ⟨#[]⟩] (.slice (some ⟨w4.heap.size, 0, none⟩) 1 1) [v1] (.slice none 0 0) [] [] w5 ∧ Sl w5 (fun b => (w4.alloc (.cells #[.int .i64 v1] 3)).heap.size ≤ b) 3 1 (.slice a5 v2.length c5) (icells v2) v2.length) := ⟨hc, hs⟩
       clear hs hc)
    | (at_builtin; refine wpList_append rfl _ _ 34 34 rfl C2.out.1.nums Tryz.underlying34 info3 rfl (by decide) rfl (.slice a5 v2.length c5) rfl (C2.out.2.src Tryz.underlying34 (icells_one v2)) m1.out.1 m1.out.2 ?_
       intro x6 w6 q6 t6
       obtain ⟨a6, c6, hv6, -, -⟩ := q6.value
       subst hv6
       have C3 : Hid (CS w0 w p w3.heap.size #[.int .i64 8, .slice none 0 0, .string ⟨#[]⟩, .string ⟨#[]⟩, .slice none 0 0, .int .i64 0, .int .i64 0, .int .i64 0, .int .i64 0, .slice none 0 0, .string ⟨#[]⟩] (.slice a6 (v1 :: v2).length c6) (v1 :: v2) (.slice none 0 0) [] [] w6) := C2.out.1.app t6 (by
         have hb := lt_of_block C2.out.1.box
         have hi := C2.out.1.hi
         rw [List.length_cons, Nat.add_comm v2.length 1]
         exact q6.widen fun b q => q.elim id fun q => by omega) (Sl.nil _ _ _ _)
       have k1 := cell_of C3.out.box 1 _ rfl; have f1 := free_of C3.out.box 1; have m2 := lt_of_block C3.out.box
       clear q6 t6)
    | (go_at_call 53; (with_reducible refine (M.out _ _ _ _ _ (C3.out.put 1 (.slice a6 (1 + v2.length) c6))).mono ?_); rintro e w9 ⟨rfl, rfl⟩))
  refine wp_region_lit ?_
  refine wpList_load_row rfl 39 _ rfl w3.heap.size rfl 39 #[.int .i64 8, .slice a6 (1 + v2.length) c6, .string ⟨#[]⟩, .string ⟨#[]⟩, .slice none 0 0, .int .i64 0, .int .i64 0, .int .i64 0, .int .i64 0, .slice none 0 0, .string ⟨#[]⟩] (0, 0) _ ((C3.out.put 1 (.slice a6 (1 + v2.length) c6))).box Tryz.underlying39 rfl info39 ?_
  refine wpList_store_row rfl 39 _ _ rfl w.heap.size #[.int .i64 8, .slice a6 (1 + v2.length) c6, .string ⟨#[]⟩, .string ⟨#[]⟩, .slice none 0 0, .int .i64 0, .int .i64 0, .int .i64 0, .int .i64 0, .slice none 0 0, .string ⟨#[]⟩] zero11 39 rfl rfl ((C3.out.put 1 (.slice a6 (1 + v2.length) c6))).res info39 rfl (by simp [Value.oneCell']) ?_
  intro wE hE htE _
  go_wp2
  refine cmd_ret rfl hE ?_
  have F := CS.fin (c := { kind := 8, nums := v1 :: v2 }) (C3.out.put 1 (.slice a6 (1 + v2.length) c6)) htE (Sl.nil _ _ _ _)
  refine ⟨⟨_, ?_, F.1⟩, F.2⟩
  rw [show 1 + v2.length = v2.length + 1 from Nat.add_comm _ _]
  rfl

set_option maxRecDepth 100000 in
set_option maxHeartbeats 1000000 in
theorem cmd_0_0 (w0 w : World) (p : Nat) (s : B) (h : At w0 w p s) (hk : kindIn cnames (tok s) = 0) (h1 : pQues (kindIn qnames (tok s)) (aft s) = none) :
    Calls Tryz.prog 30 #[pt p] w (CmdPost w p (none)) := by
  have BG := Begin.of h hk
  have NA : Hid (∀ W, Turned (fun _ => False) w W → Calls Tryz.prog 49 #[pt p] W fun e w' => e = .returned (.string (bs (tok s))) ∧ At w0 w' p (aft s) ∧ Turned (· = p) W w') := BG.name
  have FI : Hid (∀ W bm, W.heap[bm]? = some (.map (mapEa cnames) 13) → Calls Tryz.prog 50 #[.map (some bm), .string (bs (tok s))] W fun e w' => e = .returned (.int .i64 0) ∧ Turned (fun _ => False) W w') := BG.find
  have LO : Hid (p < w.heap.size) := BG.low
  have FQ : Hid (∀ W bm, W.heap[bm]? = some (.map (mapEa qnames) 12) → Calls Tryz.prog 50 #[.map (some bm), .string (bs (tok s))] W fun e w' => e = .returned (.int .i64 (kindIn qnames (tok s))) ∧ Turned (fun _ => False) W w') := fun W bm hm => find_any qnames (by decide +kernel) (tok s) bm W hm
  have N1 : Hid (∀ b1 cs u1 l W, CS w0 w p b1 cs u1 l (.slice none 0 0) [] (aft s) W → Calls Tryz.prog 57 #[pt p, .int .i64 (kindIn qnames (tok s))] W fun e w' =>  e = .panicked [wrongE] ∧ Turned (· = p) w w') := fun _ _ _ _ _ c => c.ques_no _ (qkind_any _) h1
  clear h hk BG h1
  generalize kindIn qnames (tok s) = kq at *
  go_enter Tryz.func30, Tryz.ntmps30
  go_wp2_with (first
    | (go_at_call 49; (with_reducible refine (NA.out _ ((Turned.refl (fun _ => False) w).new _)).mono ?_); rintro e w1 ⟨rfl, ha, ht⟩
       have X1 : Hid (At w0 w1 p (aft s) ∧ Turned (· = p) w w1 ∧ w1.heap[w.heap.size]? = some (.cells zero11 39 (0, 0))) := ⟨ha, ((Turned.refl (· = p) w).new _).trans ht fun _ _ q => q, (ht.block _ (by simp) (by have := LO.out; omega)).trans (heap_alloc_new w _)⟩
       have q51 := names_any w1
       clear ha ht)
    | (go_at_call 51; (with_reducible refine q51.mono ?_); rintro e w2 ⟨rfl, hm, ht⟩
       have X2 : Hid (Turned (fun _ => False) w1 w2) := ht
       have q50 := FI.out w2 w1.heap.size hm
       clear hm ht q51)
    | (go_at_call 50; (with_reducible refine q50.mono ?_); rintro e w3 ⟨rfl, ht⟩
       have C0 : Hid (CS w0 w p w3.heap.size #[.int .i64 0, .slice none 0 0, .string ⟨#[]⟩, .string ⟨#[]⟩, .slice none 0 0, .int .i64 0, .int .i64 0, .int .i64 0, .int .i64 0, .slice none 0 0, .string ⟨#[]⟩] (.slice none 0 0) [] (.slice none 0 0) [] (aft s) (w3.alloc (.cells #[.int .i64 0, .slice none 0 0, .string ⟨#[]⟩, .string ⟨#[]⟩, .slice none 0 0, .int .i64 0, .int .i64 0, .int .i64 0, .int .i64 0, .slice none 0 0, .string ⟨#[]⟩] 39))) := CS.first (k := 0) (X1.out.1.turned (X2.out.trans ht fun _ _ q => q)) (X1.out.2.1.trans (X2.out.trans ht fun _ _ q => q) fun _ _ q => q.elim) (((X2.out.trans ht fun _ _ q => q).block _ (lt_of_block X1.out.2.2) id).trans X1.out.2.2) LO.out; have q58 := questions_any (w3.alloc (.cells #[.int .i64 0, .slice none 0 0, .string ⟨#[]⟩, .string ⟨#[]⟩, .slice none 0 0, .int .i64 0, .int .i64 0, .int .i64 0, .int .i64 0, .slice none 0 0, .string ⟨#[]⟩] 39))
       clear ht q50)
    | (go_at_call 58; (with_reducible refine q58.mono ?_); rintro e w4 ⟨rfl, hm, ht⟩
       have C1 : Hid (CS w0 w p w3.heap.size #[.int .i64 0, .slice none 0 0, .string ⟨#[]⟩, .string ⟨#[]⟩, .slice none 0 0, .int .i64 0, .int .i64 0, .int .i64 0, .int .i64 0, .slice none 0 0, .string ⟨#[]⟩] (.slice none 0 0) [] (.slice none 0 0) [] (aft s) w4) := C0.out.same ht
       have p50 := FQ.out w4 (w3.heap.size + 1) (by simpa using hm)
       clear hm ht q58)
    | (go_at_call 50; (with_reducible refine p50.mono ?_); rintro e w5 ⟨rfl, ht⟩
       have C2 : Hid (CS w0 w p w3.heap.size #[.int .i64 0, .slice none 0 0, .string ⟨#[]⟩, .string ⟨#[]⟩, .slice none 0 0, .int .i64 0, .int .i64 0, .int .i64 0, .int .i64 0, .slice none 0 0, .string ⟨#[]⟩] (.slice none 0 0) [] (.slice none 0 0) [] (aft s) w5) := C1.out.same ht
       clear ht p50)
    | (go_at_call 57; (with_reducible refine (N1.out _ _ _ _ _ C2.out).mono ?_); rintro e w6 ⟨rfl, ht⟩))
  exact ⟨rfl, rfl, ht⟩

set_option maxRecDepth 100000 in
set_option maxHeartbeats 1000000 in
theorem cmd_0_end (w0 w : World) (p : Nat) (s : B) (h : At w0 w p s) (hk : kindIn cnames (tok s) = 0) (q : Ques) (h1 : pQues (kindIn qnames (tok s)) (aft s) = some (q, [])) :
    Calls Tryz.prog 30 #[pt p] w (CmdPost w p (some { kind := 12, ask := q })) := by
  have BG := Begin.of h hk
  have NA : Hid (∀ W, Turned (fun _ => False) w W → Calls Tryz.prog 49 #[pt p] W fun e w' => e = .returned (.string (bs (tok s))) ∧ At w0 w' p (aft s) ∧ Turned (· = p) W w') := BG.name
  have FI : Hid (∀ W bm, W.heap[bm]? = some (.map (mapEa cnames) 13) → Calls Tryz.prog 50 #[.map (some bm), .string (bs (tok s))] W fun e w' => e = .returned (.int .i64 0) ∧ Turned (fun _ => False) W w') := BG.find
  have LO : Hid (p < w.heap.size) := BG.low
  have FQ : Hid (∀ W bm, W.heap[bm]? = some (.map (mapEa qnames) 12) → Calls Tryz.prog 50 #[.map (some bm), .string (bs (tok s))] W fun e w' => e = .returned (.int .i64 (kindIn qnames (tok s))) ∧ Turned (fun _ => False) W w') := fun W bm hm => find_any qnames (by decide +kernel) (tok s) bm W hm
  have N1 : Hid (∀ b1 cs u1 l W, CS w0 w p b1 cs u1 l (.slice none 0 0) [] (aft s) W → Calls Tryz.prog 57 #[pt p, .int .i64 (kindIn qnames (tok s))] W fun e w' =>  ∃ a cap, e = .returned (.agg #[.int .i64 q.kind, .int .i64 q.a, .int .i64 q.b, .int .i64 q.limit, .slice a q.ids.length cap, .string (bs q.path)]) ∧ Sl w' (fun b => w.heap.size < b ∧ b ≠ b1) 3 1 (.slice a q.ids.length cap) (icells q.ids) q.ids.length ∧ CS w0 w p b1 cs u1 l (.slice none 0 0) [] [] w') := fun _ _ _ _ _ c => c.ques _ (qkind_any _) h1
  have M : Hid (∀ b1 cs u1 l W, CS w0 w p b1 cs u1 l (.slice none 0 0) [] [] W → Calls Tryz.prog 53 #[pt p] W fun e w' => e = .returned (.bool false) ∧ w' = W) := fun _ _ _ _ _ c => c.more_end
  clear h hk BG h1
  generalize kindIn qnames (tok s) = kq at *
  go_enter Tryz.func30, Tryz.ntmps30
  go_upto_region 33 with (first
    | (go_at_call 49; (with_reducible refine (NA.out _ ((Turned.refl (fun _ => False) w).new _)).mono ?_); rintro e w1 ⟨rfl, ha, ht⟩
       have X1 : Hid (At w0 w1 p (aft s) ∧ Turned (· = p) w w1 ∧ w1.heap[w.heap.size]? = some (.cells zero11 39 (0, 0))) := ⟨ha, ((Turned.refl (· = p) w).new _).trans ht fun _ _ q => q, (ht.block _ (by simp) (by have := LO.out; omega)).trans (heap_alloc_new w _)⟩
       have q51 := names_any w1
       clear ha ht)
    | (go_at_call 51; (with_reducible refine q51.mono ?_); rintro e w2 ⟨rfl, hm, ht⟩
       have X2 : Hid (Turned (fun _ => False) w1 w2) := ht
       have q50 := FI.out w2 w1.heap.size hm
       clear hm ht q51)
    | (go_at_call 50; (with_reducible refine q50.mono ?_); rintro e w3 ⟨rfl, ht⟩
       have C0 : Hid (CS w0 w p w3.heap.size #[.int .i64 0, .slice none 0 0, .string ⟨#[]⟩, .string ⟨#[]⟩, .slice none 0 0, .int .i64 0, .int .i64 0, .int .i64 0, .int .i64 0, .slice none 0 0, .string ⟨#[]⟩] (.slice none 0 0) [] (.slice none 0 0) [] (aft s) (w3.alloc (.cells #[.int .i64 0, .slice none 0 0, .string ⟨#[]⟩, .string ⟨#[]⟩, .slice none 0 0, .int .i64 0, .int .i64 0, .int .i64 0, .int .i64 0, .slice none 0 0, .string ⟨#[]⟩] 39))) := CS.first (k := 0) (X1.out.1.turned (X2.out.trans ht fun _ _ q => q)) (X1.out.2.1.trans (X2.out.trans ht fun _ _ q => q) fun _ _ q => q.elim) (((X2.out.trans ht fun _ _ q => q).block _ (lt_of_block X1.out.2.2) id).trans X1.out.2.2) LO.out; have q58 := questions_any (w3.alloc (.cells #[.int .i64 0, .slice none 0 0, .string ⟨#[]⟩, .string ⟨#[]⟩, .slice none 0 0, .int .i64 0, .int .i64 0, .int .i64 0, .int .i64 0, .slice none 0 0, .string ⟨#[]⟩] 39))
       clear ht q50)
    | (go_at_call 58; (with_reducible refine q58.mono ?_); rintro e w4 ⟨rfl, hm, ht⟩
       have C1 : Hid (CS w0 w p w3.heap.size #[.int .i64 0, .slice none 0 0, .string ⟨#[]⟩, .string ⟨#[]⟩, .slice none 0 0, .int .i64 0, .int .i64 0, .int .i64 0, .int .i64 0, .slice none 0 0, .string ⟨#[]⟩] (.slice none 0 0) [] (.slice none 0 0) [] (aft s) w4) := C0.out.same ht
       have p50 := FQ.out w4 (w3.heap.size + 1) (by simpa using hm)
       clear hm ht q58)
    | (go_at_call 50; (with_reducible refine p50.mono ?_); rintro e w5 ⟨rfl, ht⟩
       have C2 : Hid (CS w0 w p w3.heap.size #[.int .i64 0, .slice none 0 0, .string ⟨#[]⟩, .string ⟨#[]⟩, .slice none 0 0, .int .i64 0, .int .i64 0, .int .i64 0, .int .i64 0, .slice none 0 0, .string ⟨#[]⟩] (.slice none 0 0) [] (.slice none 0 0) [] (aft s) w5) := C1.out.same ht
       clear ht p50)
    | (go_at_call 57; (with_reducible refine (N1.out _ _ _ _ _ C2.out).mono ?_); rintro e w6 ⟨a6, c6, rfl, hs, hc⟩
       have C3 : Hid (CS w0 w p w3.heap.size #[.int .i64 0, .slice none 0 0, .string ⟨#[]⟩, .string ⟨#[]⟩, .slice none 0 0, .int .i64 0, .int .i64 0, .int .i64 0, .int .i64 0, .slice none 0 0, .string ⟨#[]⟩] (.slice none 0 0) [] (.slice none 0 0) [] [] w6 ∧ Sl w6 (fun b => w.heap.size < b ∧ b ≠ w3.heap.size) 3 1 (.slice a6 q.ids.length c6) (icells q.ids) q.ids.length) := ⟨hc, hs⟩
       have k0 := cell_of hc.box 0 _ rfl; have f0 := free_of hc.box 0; have k1 := cell_of hc.box 1 _ rfl; have f1 := free_of hc.box 1; have k2 := cell_of hc.box 2 _ rfl; have f2 := free_of hc.box 2; have k3 := cell_of hc.box 3 _ rfl; have f3 := free_of hc.box 3; have k4 := cell_of hc.box 4 _ rfl; have f4 := free_of hc.box 4; have k5 := cell_of hc.box 5 _ rfl; have f5 := free_of hc.box 5; have k6 := cell_of hc.box 6 _ rfl; have f6 := free_of hc.box 6; have k7 := cell_of hc.box 7 _ rfl; have f7 := free_of hc.box 7; have k8 := cell_of hc.box 8 _ rfl; have f8 := free_of hc.box 8; have k9 := cell_of hc.box 9 _ rfl; have f9 := free_of hc.box 9; have k10 := cell_of hc.box 10 _ rfl; have f10 := free_of hc.box 10; have m1 := lt_of_block hc.box
       clear hs hc)
    | (go_at_call 53; (with_reducible refine (M.out _ _ _ _ _ (((((((((((C3.out.1.put 0 (.int .i64 12)).put 1 (.slice none 0 0)).put 2 (.string ⟨#[]⟩)).put 3 (.string ⟨#[]⟩)).put 4 (.slice none 0 0)).put 5 (.int .i64 q.kind)).put 6 (.int .i64 q.a)).put 7 (.int .i64 q.b)).put 8 (.int .i64 q.limit)).put 9 (.slice a6 q.ids.length c6)).put 10 (.string (bs q.path)))).mono ?_); rintro e w9 ⟨rfl, rfl⟩))
  have T1 : Turned (· = w3.heap.size) w6 _ := ((((((((((((Turned.refl (· = w3.heap.size) w6).set (p := ⟨w3.heap.size, 0, none⟩) rfl (.int .i64 12)).set (p := ⟨w3.heap.size, 1, none⟩) rfl (.slice none 0 0)).set (p := ⟨w3.heap.size, 2, none⟩) rfl (.string ⟨#[]⟩)).set (p := ⟨w3.heap.size, 3, none⟩) rfl (.string ⟨#[]⟩)).set (p := ⟨w3.heap.size, 4, none⟩) rfl (.slice none 0 0)).set (p := ⟨w3.heap.size, 5, none⟩) rfl (.int .i64 q.kind)).set (p := ⟨w3.heap.size, 6, none⟩) rfl (.int .i64 q.a)).set (p := ⟨w3.heap.size, 7, none⟩) rfl (.int .i64 q.b)).set (p := ⟨w3.heap.size, 8, none⟩) rfl (.int .i64 q.limit)).set (p := ⟨w3.heap.size, 9, none⟩) rfl (.slice a6 q.ids.length c6)).set (p := ⟨w3.heap.size, 10, none⟩) rfl (.string (bs q.path)))
  have SQ := C3.out.2.turned T1 fun b q z => q.2 z
  refine wp_region_lit ?_
  refine wpList_load_row rfl 39 _ rfl w3.heap.size rfl 39 #[.int .i64 12, .slice none 0 0, .string ⟨#[]⟩, .string ⟨#[]⟩, .slice none 0 0, .int .i64 q.kind, .int .i64 q.a, .int .i64 q.b, .int .i64 q.limit, .slice a6 q.ids.length c6, .string (bs q.path)] (0, 0) _ ((((((((((((C3.out.1.put 0 (.int .i64 12)).put 1 (.slice none 0 0)).put 2 (.string ⟨#[]⟩)).put 3 (.string ⟨#[]⟩)).put 4 (.slice none 0 0)).put 5 (.int .i64 q.kind)).put 6 (.int .i64 q.a)).put 7 (.int .i64 q.b)).put 8 (.int .i64 q.limit)).put 9 (.slice a6 q.ids.length c6)).put 10 (.string (bs q.path)))).box Tryz.underlying39 rfl info39 ?_
  refine wpList_store_row rfl 39 _ _ rfl w.heap.size #[.int .i64 12, .slice none 0 0, .string ⟨#[]⟩, .string ⟨#[]⟩, .slice none 0 0, .int .i64 q.kind, .int .i64 q.a, .int .i64 q.b, .int .i64 q.limit, .slice a6 q.ids.length c6, .string (bs q.path)] zero11 39 rfl rfl ((((((((((((C3.out.1.put 0 (.int .i64 12)).put 1 (.slice none 0 0)).put 2 (.string ⟨#[]⟩)).put 3 (.string ⟨#[]⟩)).put 4 (.slice none 0 0)).put 5 (.int .i64 q.kind)).put 6 (.int .i64 q.a)).put 7 (.int .i64 q.b)).put 8 (.int .i64 q.limit)).put 9 (.slice a6 q.ids.length c6)).put 10 (.string (bs q.path)))).res info39 rfl (by simp [Value.oneCell']) ?_
  intro wE hE htE _
  go_wp2
  refine cmd_ret rfl hE ?_
  have F := CS.fin (c := { kind := 12, ask := q }) (((((((((((C3.out.1.put 0 (.int .i64 12)).put 1 (.slice none 0 0)).put 2 (.string ⟨#[]⟩)).put 3 (.string ⟨#[]⟩)).put 4 (.slice none 0 0)).put 5 (.int .i64 q.kind)).put 6 (.int .i64 q.a)).put 7 (.int .i64 q.b)).put 8 (.int .i64 q.limit)).put 9 (.slice a6 q.ids.length c6)).put 10 (.string (bs q.path))) htE SQ
  exact ⟨⟨_, rfl, F.1⟩, F.2⟩

set_option maxRecDepth 100000 in
set_option maxHeartbeats 1000000 in
theorem cmd_0_on (w0 w : World) (p : Nat) (s : B) (h : At w0 w p s) (hk : kindIn cnames (tok s) = 0) (q : Ques) (r : B) (h1 : pQues (kindIn qnames (tok s)) (aft s) = some (q, r)) (he : r ≠ []) :
    Calls Tryz.prog 30 #[pt p] w (CmdPost w p (none)) := by
  have BG := Begin.of h hk
  have NA : Hid (∀ W, Turned (fun _ => False) w W → Calls Tryz.prog 49 #[pt p] W fun e w' => e = .returned (.string (bs (tok s))) ∧ At w0 w' p (aft s) ∧ Turned (· = p) W w') := BG.name
  have FI : Hid (∀ W bm, W.heap[bm]? = some (.map (mapEa cnames) 13) → Calls Tryz.prog 50 #[.map (some bm), .string (bs (tok s))] W fun e w' => e = .returned (.int .i64 0) ∧ Turned (fun _ => False) W w') := BG.find
  have LO : Hid (p < w.heap.size) := BG.low
  have FQ : Hid (∀ W bm, W.heap[bm]? = some (.map (mapEa qnames) 12) → Calls Tryz.prog 50 #[.map (some bm), .string (bs (tok s))] W fun e w' => e = .returned (.int .i64 (kindIn qnames (tok s))) ∧ Turned (fun _ => False) W w') := fun W bm hm => find_any qnames (by decide +kernel) (tok s) bm W hm
  have N1 : Hid (∀ b1 cs u1 l W, CS w0 w p b1 cs u1 l (.slice none 0 0) [] (aft s) W → Calls Tryz.prog 57 #[pt p, .int .i64 (kindIn qnames (tok s))] W fun e w' =>  ∃ a cap, e = .returned (.agg #[.int .i64 q.kind, .int .i64 q.a, .int .i64 q.b, .int .i64 q.limit, .slice a q.ids.length cap, .string (bs q.path)]) ∧ Sl w' (fun b => w.heap.size < b ∧ b ≠ b1) 3 1 (.slice a q.ids.length cap) (icells q.ids) q.ids.length ∧ CS w0 w p b1 cs u1 l (.slice none 0 0) [] r w') := fun _ _ _ _ _ c => c.ques _ (qkind_any _) h1
  have M : Hid (∀ b1 cs u1 l W, CS w0 w p b1 cs u1 l (.slice none 0 0) [] r W → Calls Tryz.prog 53 #[pt p] W fun e w' => e = .returned (.bool true) ∧ w' = W) := fun _ _ _ _ _ c => c.more_on he
  clear h hk BG h1 he
  generalize kindIn qnames (tok s) = kq at *
  go_enter Tryz.func30, Tryz.ntmps30
  go_wp2_with (first
    | (go_at_call 49; (with_reducible refine (NA.out _ ((Turned.refl (fun _ => False) w).new _)).mono ?_); rintro e w1 ⟨rfl, ha, ht⟩
       have X1 : Hid (At w0 w1 p (aft s) ∧ Turned (· = p) w w1 ∧ w1.heap[w.heap.size]? = some (.cells zero11 39 (0, 0))) := ⟨ha, ((Turned.refl (· = p) w).new _).trans ht fun _ _ q => q, (ht.block _ (by simp) (by have := LO.out; omega)).trans (heap_alloc_new w _)⟩
       have q51 := names_any w1
       clear ha ht)
    | (go_at_call 51; (with_reducible refine q51.mono ?_); rintro e w2 ⟨rfl, hm, ht⟩
       have X2 : Hid (Turned (fun _ => False) w1 w2) := ht
       have q50 := FI.out w2 w1.heap.size hm
       clear hm ht q51)
    | (go_at_call 50; (with_reducible refine q50.mono ?_); rintro e w3 ⟨rfl, ht⟩
       have C0 : Hid (CS w0 w p w3.heap.size #[.int .i64 0, .slice none 0 0, .string ⟨#[]⟩, .string ⟨#[]⟩, .slice none 0 0, .int .i64 0, .int .i64 0, .int .i64 0, .int .i64 0, .slice none 0 0, .string ⟨#[]⟩] (.slice none 0 0) [] (.slice none 0 0) [] (aft s) (w3.alloc (.cells #[.int .i64 0, .slice none 0 0, .string ⟨#[]⟩, .string ⟨#[]⟩, .slice none 0 0, .int .i64 0, .int .i64 0, .int .i64 0, .int .i64 0, .slice none 0 0, .string ⟨#[]⟩] 39))) := CS.first (k := 0) (X1.out.1.turned (X2.out.trans ht fun _ _ q => q)) (X1.out.2.1.trans (X2.out.trans ht fun _ _ q => q) fun _ _ q => q.elim) (((X2.out.trans ht fun _ _ q => q).block _ (lt_of_block X1.out.2.2) id).trans X1.out.2.2) LO.out; have q58 := questions_any (w3.alloc (.cells #[.int .i64 0, .slice none 0 0, .string ⟨#[]⟩, .string ⟨#[]⟩, .slice none 0 0, .int .i64 0, .int .i64 0, .int .i64 0, .int .i64 0, .slice none 0 0, .string ⟨#[]⟩] 39))
       clear ht q50)
    | (go_at_call 58; (with_reducible refine q58.mono ?_); rintro e w4 ⟨rfl, hm, ht⟩
       have C1 : Hid (CS w0 w p w3.heap.size #[.int .i64 0, .slice none 0 0, .string ⟨#[]⟩, .string ⟨#[]⟩, .slice none 0 0, .int .i64 0, .int .i64 0, .int .i64 0, .int .i64 0, .slice none 0 0, .string ⟨#[]⟩] (.slice none 0 0) [] (.slice none 0 0) [] (aft s) w4) := C0.out.same ht
       have p50 := FQ.out w4 (w3.heap.size + 1) (by simpa using hm)
       clear hm ht q58)
    | (go_at_call 50; (with_reducible refine p50.mono ?_); rintro e w5 ⟨rfl, ht⟩
       have C2 : Hid (CS w0 w p w3.heap.size #[.int .i64 0, .slice none 0 0, .string ⟨#[]⟩, .string ⟨#[]⟩, .slice none 0 0, .int .i64 0, .int .i64 0, .int .i64 0, .int .i64 0, .slice none 0 0, .string ⟨#[]⟩] (.slice none 0 0) [] (.slice none 0 0) [] (aft s) w5) := C1.out.same ht
       clear ht p50)
    | (go_at_call 57; (with_reducible refine (N1.out _ _ _ _ _ C2.out).mono ?_); rintro e w6 ⟨a6, c6, rfl, hs, hc⟩
       have C3 : Hid (CS w0 w p w3.heap.size #[.int .i64 0, .slice none 0 0, .string ⟨#[]⟩, .string ⟨#[]⟩, .slice none 0 0, .int .i64 0, .int .i64 0, .int .i64 0, .int .i64 0, .slice none 0 0, .string ⟨#[]⟩] (.slice none 0 0) [] (.slice none 0 0) [] r w6 ∧ Sl w6 (fun b => w.heap.size < b ∧ b ≠ w3.heap.size) 3 1 (.slice a6 q.ids.length c6) (icells q.ids) q.ids.length) := ⟨hc, hs⟩
       have k0 := cell_of hc.box 0 _ rfl; have f0 := free_of hc.box 0; have k1 := cell_of hc.box 1 _ rfl; have f1 := free_of hc.box 1; have k2 := cell_of hc.box 2 _ rfl; have f2 := free_of hc.box 2; have k3 := cell_of hc.box 3 _ rfl; have f3 := free_of hc.box 3; have k4 := cell_of hc.box 4 _ rfl; have f4 := free_of hc.box 4; have k5 := cell_of hc.box 5 _ rfl; have f5 := free_of hc.box 5; have k6 := cell_of hc.box 6 _ rfl; have f6 := free_of hc.box 6; have k7 := cell_of hc.box 7 _ rfl; have f7 := free_of hc.box 7; have k8 := cell_of hc.box 8 _ rfl; have f8 := free_of hc.box 8; have k9 := cell_of hc.box 9 _ rfl; have f9 := free_of hc.box 9; have k10 := cell_of hc.box 10 _ rfl; have f10 := free_of hc.box 10; have m1 := lt_of_block hc.box
       clear hs hc)
    | (go_at_call 53; (with_reducible refine (M.out _ _ _ _ _ (((((((((((C3.out.1.put 0 (.int .i64 12)).put 1 (.slice none 0 0)).put 2 (.string ⟨#[]⟩)).put 3 (.string ⟨#[]⟩)).put 4 (.slice none 0 0)).put 5 (.int .i64 q.kind)).put 6 (.int .i64 q.a)).put 7 (.int .i64 q.b)).put 8 (.int .i64 q.limit)).put 9 (.slice a6 q.ids.length c6)).put 10 (.string (bs q.path)))).mono ?_); rintro e w9 ⟨rfl, rfl⟩))
  exact ⟨rfl, rfl, ((((((((((((C3.out.1.put 0 (.int .i64 12)).put 1 (.slice none 0 0)).put 2 (.string ⟨#[]⟩)).put 3 (.string ⟨#[]⟩)).put 4 (.slice none 0 0)).put 5 (.int .i64 q.kind)).put 6 (.int .i64 q.a)).put 7 (.int .i64 q.b)).put 8 (.int .i64 q.limit)).put 9 (.slice a6 q.ids.length c6)).put 10 (.string (bs q.path)))).turn⟩

end Go.Proofs.YteblabpplaaddaaGreatDoor
