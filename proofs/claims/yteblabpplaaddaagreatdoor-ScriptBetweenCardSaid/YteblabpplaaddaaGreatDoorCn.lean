/- A line's command: the walk of command, kind by kind (printed by gen_cm.py). -/
import Derived.Test.YteblabpplaaddaaGreatDoorCm
import Derived.Test.YteblabpplaaddaaGreatDoorRow
import Derived.Deep.Cut
set_option linter.unusedVariables false
set_option linter.unusedSimpArgs false
namespace Go.Proofs.YteblabpplaaddaaGreatDoor
open Go.RowKit Go.Mine Go.Mine.Sc

set_option maxRecDepth 100000 in
set_option maxHeartbeats 1000000 in
theorem cmd_7_0 (w0 w : World) (p : Nat) (s : B) (h : At w0 w p s) (hk : kindIn cnames (tok s) = 7) (h1 : pNum (aft s) = none) :
    Calls Tryz.prog 30 #[pt p] w (CmdPost w p (none)) := by
  have BG := Begin.of h hk
  have NA : Hid (∀ W, Turned (fun _ => False) w W → Calls Tryz.prog 49 #[pt p] W fun e w' => e = .returned (.string (bs (tok s))) ∧ At w0 w' p (aft s) ∧ Turned (· = p) W w') := BG.name
  have FI : Hid (∀ W bm, W.heap[bm]? = some (.map (mapEa cnames) 13) → Calls Tryz.prog 50 #[.map (some bm), .string (bs (tok s))] W fun e w' => e = .returned (.int .i64 7) ∧ Turned (fun _ => False) W w') := BG.find
  have LO : Hid (p < w.heap.size) := BG.low
  have N1 : Hid (∀ b1 cs u1 l W, CS w0 w p b1 cs u1 l (.slice none 0 0) [] (aft s) W → Calls Tryz.prog 52 #[pt p] W fun e w' =>  e = .panicked [wrongE] ∧ Turned (· = p) w w') := fun _ _ _ _ _ c => c.num_no h1
  clear h hk BG h1
  go_enter Tryz.func30, Tryz.ntmps30
  go_wp2_with (first
    | (go_at_call 49; (with_reducible refine (NA.out _ ((Turned.refl (fun _ => False) w).new _)).mono ?_); rintro e w1 ⟨rfl, ha, ht⟩
       have X1 : Hid (At w0 w1 p (aft s) ∧ Turned (· = p) w w1 ∧ w1.heap[w.heap.size]? = some (.cells zero11 39 (0, 0))) := ⟨ha, ((Turned.refl (· = p) w).new _).trans ht fun _ _ q => q, (ht.block _ (by simp) (by have := LO.out; omega)).trans (heap_alloc_new w _)⟩
       have q51 := names_any w1
       clear ha ht)
    | (go_at_call 51; (with_reducible refine q51.mono ?_); rintro e w2 ⟨rfl, hm, ht⟩
       have X2 : Hid (Turned (fun _ => False) w1 w2) := ht
       have q50 := FI.out w2 w1.heap.size hm
       clear hm ht q51)
    | (go_at_call 50; (with_reducible refine q50.mono ?_); rintro e w3 ⟨rfl, ht⟩
       have C0 : Hid (CS w0 w p w3.heap.size #[.int .i64 7, .slice none 0 0, .string ⟨#[]⟩, .string ⟨#[]⟩, .slice none 0 0, .int .i64 0, .int .i64 0, .int .i64 0, .int .i64 0, .slice none 0 0, .string ⟨#[]⟩] (.slice none 0 0) [] (.slice none 0 0) [] (aft s) (w3.alloc (.cells #[.int .i64 7, .slice none 0 0, .string ⟨#[]⟩, .string ⟨#[]⟩, .slice none 0 0, .int .i64 0, .int .i64 0, .int .i64 0, .int .i64 0, .slice none 0 0, .string ⟨#[]⟩] 39))) := CS.first (k := 7) (X1.out.1.turned (X2.out.trans ht fun _ _ q => q)) (X1.out.2.1.trans (X2.out.trans ht fun _ _ q => q) fun _ _ q => q.elim) (((X2.out.trans ht fun _ _ q => q).block _ (lt_of_block X1.out.2.2) id).trans X1.out.2.2) LO.out
       clear ht q50)
    | (go_at_call 52; (with_reducible refine (N1.out _ _ _ _ _ (C0.out)).mono ?_); rintro e w4 ⟨rfl, ht⟩))
  exact ⟨rfl, rfl, ht⟩

set_option maxRecDepth 100000 in
set_option maxHeartbeats 1000000 in
theorem cmd_7_end (w0 w : World) (p : Nat) (s : B) (h : At w0 w p s) (hk : kindIn cnames (tok s) = 7) (v1 : Int) (r1 : B) (h1 : pNum (aft s) = some (v1, r1)) (he : r1 = []) :
    Calls Tryz.prog 30 #[pt p] w (CmdPost w p (some { kind := 7, nums := [v1] })) := by
  subst he
  have BG := Begin.of h hk
  have NA : Hid (∀ W, Turned (fun _ => False) w W → Calls Tryz.prog 49 #[pt p] W fun e w' => e = .returned (.string (bs (tok s))) ∧ At w0 w' p (aft s) ∧ Turned (· = p) W w') := BG.name
  have FI : Hid (∀ W bm, W.heap[bm]? = some (.map (mapEa cnames) 13) → Calls Tryz.prog 50 #[.map (some bm), .string (bs (tok s))] W fun e w' => e = .returned (.int .i64 7) ∧ Turned (fun _ => False) W w') := BG.find
  have LO : Hid (p < w.heap.size) := BG.low
  have N1 : Hid (∀ b1 cs u1 l W, CS w0 w p b1 cs u1 l (.slice none 0 0) [] (aft s) W → Calls Tryz.prog 52 #[pt p] W fun e w' =>  e = .returned (.int .i64 v1) ∧ CS w0 w p b1 cs u1 l (.slice none 0 0) [] [] w') := fun _ _ _ _ _ c => c.num h1
  have M : Hid (∀ b1 cs u1 l W, CS w0 w p b1 cs u1 l (.slice none 0 0) [] [] W → Calls Tryz.prog 53 #[pt p] W fun e w' => e = .returned (.bool false) ∧ w' = W) := fun _ _ _ _ _ c => c.more_end
  clear h hk BG h1
  go_enter Tryz.func30, Tryz.ntmps30
  go_upto_region 33 with (first
    | (go_at_call 49; (with_reducible refine (NA.out _ ((Turned.refl (fun _ => False) w).new _)).mono ?_); rintro e w1 ⟨rfl, ha, ht⟩
       have X1 : Hid (At w0 w1 p (aft s) ∧ Turned (· = p) w w1 ∧ w1.heap[w.heap.size]? = some (.cells zero11 39 (0, 0))) := ⟨ha, ((Turned.refl (· = p) w).new _).trans ht fun _ _ q => q, (ht.block _ (by simp) (by have := LO.out; omega)).trans (heap_alloc_new w _)⟩
       have q51 := names_any w1
       clear ha ht)
    | (go_at_call 51; (with_reducible refine q51.mono ?_); rintro e w2 ⟨rfl, hm, ht⟩
       have X2 : Hid (Turned (fun _ => False) w1 w2) := ht
       have q50 := FI.out w2 w1.heap.size hm
       clear hm ht q51)
    | (go_at_call 50; (with_reducible refine q50.mono ?_); rintro e w3 ⟨rfl, ht⟩
       have C0 : Hid (CS w0 w p w3.heap.size #[.int .i64 7, .slice none 0 0, .string ⟨#[]⟩, .string ⟨#[]⟩, .slice none 0 0, .int .i64 0, .int .i64 0, .int .i64 0, .int .i64 0, .slice none 0 0, .string ⟨#[]⟩] (.slice none 0 0) [] (.slice none 0 0) [] (aft s) (w3.alloc (.cells #[.int .i64 7, .slice none 0 0, .string ⟨#[]⟩, .string ⟨#[]⟩, .slice none 0 0, .int .i64 0, .int .i64 0, .int .i64 0, .int .i64 0, .slice none 0 0, .string ⟨#[]⟩] 39))) := CS.first (k := 7) (X1.out.1.turned (X2.out.trans ht fun _ _ q => q)) (X1.out.2.1.trans (X2.out.trans ht fun _ _ q => q) fun _ _ q => q.elim) (((X2.out.trans ht fun _ _ q => q).block _ (lt_of_block X1.out.2.2) id).trans X1.out.2.2) LO.out
       clear ht q50)
    | (go_at_call 52; (with_reducible refine (N1.out _ _ _ _ _ (C0.out)).mono ?_); rintro e w4 ⟨rfl, hc⟩
       have C1 : Hid (CS w0 w p w3.heap.size #[.int .i64 7, .slice none 0 0, .string ⟨#[]⟩, .string ⟨#[]⟩, .slice none 0 0, .int .i64 0, .int .i64 0, .int .i64 0, .int .i64 0, .slice none 0 0, .string ⟨#[]⟩] (.slice none 0 0) [] (.slice none 0 0) [] [] w4) := hc
       have k1 := cell_of hc.box 1 _ rfl; have f1 := free_of hc.box 1; have m1 := lt_of_block hc.box; clear hc)
    | (go_at_call 53; (with_reducible refine (M.out _ _ _ _ _ (C1.out.one v1)).mono ?_); rintro e w9 ⟨rfl, rfl⟩))
  refine wp_region_lit ?_
  refine wpList_load_row rfl 39 _ rfl w3.heap.size rfl 39 #[.int .i64 7, .slice (some ⟨w4.heap.size, 0, none⟩) 1 1, .string ⟨#[]⟩, .string ⟨#[]⟩, .slice none 0 0, .int .i64 0, .int .i64 0, .int .i64 0, .int .i64 0, .slice none 0 0, .string ⟨#[]⟩] (0, 0) _ ((C1.out.one v1)).box Tryz.underlying39 rfl info39 ?_
  refine wpList_store_row rfl 39 _ _ rfl w.heap.size #[.int .i64 7, .slice (some ⟨w4.heap.size, 0, none⟩) 1 1, .string ⟨#[]⟩, .string ⟨#[]⟩, .slice none 0 0, .int .i64 0, .int .i64 0, .int .i64 0, .int .i64 0, .slice none 0 0, .string ⟨#[]⟩] zero11 39 rfl rfl ((C1.out.one v1)).res info39 rfl (by simp [Value.oneCell']) ?_
  intro wE hE htE _
  go_wp2
  refine cmd_ret rfl hE ?_
  have F := CS.fin (c := { kind := 7, nums := [v1] }) (C1.out.one v1) htE (Sl.nil _ _ _ _)
  exact ⟨⟨_, rfl, F.1⟩, F.2⟩

set_option maxRecDepth 100000 in
set_option maxHeartbeats 1000000 in
theorem cmd_7_on (w0 w : World) (p : Nat) (s : B) (h : At w0 w p s) (hk : kindIn cnames (tok s) = 7) (v1 : Int) (r1 : B) (h1 : pNum (aft s) = some (v1, r1)) (he : r1 ≠ []) :
    Calls Tryz.prog 30 #[pt p] w (CmdPost w p (none)) := by
  have BG := Begin.of h hk
  have NA : Hid (∀ W, Turned (fun _ => False) w W → Calls Tryz.prog 49 #[pt p] W fun e w' => e = .returned (.string (bs (tok s))) ∧ At w0 w' p (aft s) ∧ Turned (· = p) W w') := BG.name
  have FI : Hid (∀ W bm, W.heap[bm]? = some (.map (mapEa cnames) 13) → Calls Tryz.prog 50 #[.map (some bm), .string (bs (tok s))] W fun e w' => e = .returned (.int .i64 7) ∧ Turned (fun _ => False) W w') := BG.find
  have LO : Hid (p < w.heap.size) := BG.low
  have N1 : Hid (∀ b1 cs u1 l W, CS w0 w p b1 cs u1 l (.slice none 0 0) [] (aft s) W → Calls Tryz.prog 52 #[pt p] W fun e w' =>  e = .returned (.int .i64 v1) ∧ CS w0 w p b1 cs u1 l (.slice none 0 0) [] r1 w') := fun _ _ _ _ _ c => c.num h1
  have M : Hid (∀ b1 cs u1 l W, CS w0 w p b1 cs u1 l (.slice none 0 0) [] r1 W → Calls Tryz.prog 53 #[pt p] W fun e w' => e = .returned (.bool true) ∧ w' = W) := fun _ _ _ _ _ c => c.more_on he
  clear h hk BG h1 he
  go_enter Tryz.func30, Tryz.ntmps30
  go_wp2_with (first
    | (go_at_call 49; (with_reducible refine (NA.out _ ((Turned.refl (fun _ => False) w).new _)).mono ?_); rintro e w1 ⟨rfl, ha, ht⟩
       have X1 : Hid (At w0 w1 p (aft s) ∧ Turned (· = p) w w1 ∧ w1.heap[w.heap.size]? = some (.cells zero11 39 (0, 0))) := ⟨ha, ((Turned.refl (· = p) w).new _).trans ht fun _ _ q => q, (ht.block _ (by simp) (by have := LO.out; omega)).trans (heap_alloc_new w _)⟩
       have q51 := names_any w1
       clear ha ht)
    | (go_at_call 51; (with_reducible refine q51.mono ?_); rintro e w2 ⟨rfl, hm, ht⟩
       have X2 : Hid (Turned (fun _ => False) w1 w2) := ht
       have q50 := FI.out w2 w1.heap.size hm
       clear hm ht q51)
    | (go_at_call 50; (with_reducible refine q50.mono ?_); rintro e w3 ⟨rfl, ht⟩
       have C0 : Hid (CS w0 w p w3.heap.size #[.int .i64 7, .slice none 0 0, .string ⟨#[]⟩, .string ⟨#[]⟩, .slice none 0 0, .int .i64 0, .int .i64 0, .int .i64 0, .int .i64 0, .slice none 0 0, .string ⟨#[]⟩] (.slice none 0 0) [] (.slice none 0 0) [] (aft s) (w3.alloc (.cells #[.int .i64 7, .slice none 0 0, .string ⟨#[]⟩, .string ⟨#[]⟩, .slice none 0 0, .int .i64 0, .int .i64 0, .int .i64 0, .int .i64 0, .slice none 0 0, .string ⟨#[]⟩] 39))) := CS.first (k := 7) (X1.out.1.turned (X2.out.trans ht fun _ _ q => q)) (X1.out.2.1.trans (X2.out.trans ht fun _ _ q => q) fun _ _ q => q.elim) (((X2.out.trans ht fun _ _ q => q).block _ (lt_of_block X1.out.2.2) id).trans X1.out.2.2) LO.out
       clear ht q50)
    | (go_at_call 52; (with_reducible refine (N1.out _ _ _ _ _ (C0.out)).mono ?_); rintro e w4 ⟨rfl, hc⟩
       have C1 : Hid (CS w0 w p w3.heap.size #[.int .i64 7, .slice none 0 0, .string ⟨#[]⟩, .string ⟨#[]⟩, .slice none 0 0, .int .i64 0, .int .i64 0, .int .i64 0, .int .i64 0, .slice none 0 0, .string ⟨#[]⟩] (.slice none 0 0) [] (.slice none 0 0) [] r1 w4) := hc
       have k1 := cell_of hc.box 1 _ rfl; have f1 := free_of hc.box 1; have m1 := lt_of_block hc.box; clear hc)
    | (go_at_call 53; (with_reducible refine (M.out _ _ _ _ _ (C1.out.one v1)).mono ?_); rintro e w9 ⟨rfl, rfl⟩))
  exact ⟨rfl, rfl, ((C1.out.one v1)).turn⟩

set_option maxRecDepth 100000 in
set_option maxHeartbeats 1000000 in
theorem cmd_9_0 (w0 w : World) (p : Nat) (s : B) (h : At w0 w p s) (hk : kindIn cnames (tok s) = 9) (h1 : pText (aft s) = none) :
    Calls Tryz.prog 30 #[pt p] w (CmdPost w p (none)) := by
  have BG := Begin.of h hk
  have NA : Hid (∀ W, Turned (fun _ => False) w W → Calls Tryz.prog 49 #[pt p] W fun e w' => e = .returned (.string (bs (tok s))) ∧ At w0 w' p (aft s) ∧ Turned (· = p) W w') := BG.name
  have FI : Hid (∀ W bm, W.heap[bm]? = some (.map (mapEa cnames) 13) → Calls Tryz.prog 50 #[.map (some bm), .string (bs (tok s))] W fun e w' => e = .returned (.int .i64 9) ∧ Turned (fun _ => False) W w') := BG.find
  have LO : Hid (p < w.heap.size) := BG.low
  have N1 : Hid (∀ b1 cs u1 l W, CS w0 w p b1 cs u1 l (.slice none 0 0) [] (aft s) W → Calls Tryz.prog 54 #[pt p] W fun e w' =>  e = .panicked [wrongE] ∧ Turned (· = p) w w') := fun _ _ _ _ _ c => c.txt_no h1
  clear h hk BG h1
  go_enter Tryz.func30, Tryz.ntmps30
  go_wp2_with (first
    | (go_at_call 49; (with_reducible refine (NA.out _ ((Turned.refl (fun _ => False) w).new _)).mono ?_); rintro e w1 ⟨rfl, ha, ht⟩
       have X1 : Hid (At w0 w1 p (aft s) ∧ Turned (· = p) w w1 ∧ w1.heap[w.heap.size]? = some (.cells zero11 39 (0, 0))) := ⟨ha, ((Turned.refl (· = p) w).new _).trans ht fun _ _ q => q, (ht.block _ (by simp) (by have := LO.out; omega)).trans (heap_alloc_new w _)⟩
       have q51 := names_any w1
       clear ha ht)
    | (go_at_call 51; (with_reducible refine q51.mono ?_); rintro e w2 ⟨rfl, hm, ht⟩
       have X2 : Hid (Turned (fun _ => False) w1 w2) := ht
       have q50 := FI.out w2 w1.heap.size hm
       clear hm ht q51)
    | (go_at_call 50; (with_reducible refine q50.mono ?_); rintro e w3 ⟨rfl, ht⟩
       have C0 : Hid (CS w0 w p w3.heap.size #[.int .i64 9, .slice none 0 0, .string ⟨#[]⟩, .string ⟨#[]⟩, .slice none 0 0, .int .i64 0, .int .i64 0, .int .i64 0, .int .i64 0, .slice none 0 0, .string ⟨#[]⟩] (.slice none 0 0) [] (.slice none 0 0) [] (aft s) (w3.alloc (.cells #[.int .i64 9, .slice none 0 0, .string ⟨#[]⟩, .string ⟨#[]⟩, .slice none 0 0, .int .i64 0, .int .i64 0, .int .i64 0, .int .i64 0, .slice none 0 0, .string ⟨#[]⟩] 39))) := CS.first (k := 9) (X1.out.1.turned (X2.out.trans ht fun _ _ q => q)) (X1.out.2.1.trans (X2.out.trans ht fun _ _ q => q) fun _ _ q => q.elim) (((X2.out.trans ht fun _ _ q => q).block _ (lt_of_block X1.out.2.2) id).trans X1.out.2.2) LO.out
       clear ht q50)
    | (go_at_call 54; (with_reducible refine (N1.out _ _ _ _ _ (C0.out)).mono ?_); rintro e w4 ⟨rfl, ht⟩))
  exact ⟨rfl, rfl, ht⟩

set_option maxRecDepth 100000 in
set_option maxHeartbeats 1000000 in
theorem cmd_9_1 (w0 w : World) (p : Nat) (s : B) (h : At w0 w p s) (hk : kindIn cnames (tok s) = 9) (v1 : B) (r1 : B) (h1 : pText (aft s) = some (v1, r1)) (h2 : pNum r1 = none) :
    Calls Tryz.prog 30 #[pt p] w (CmdPost w p (none)) := by
  have BG := Begin.of h hk
  have NA : Hid (∀ W, Turned (fun _ => False) w W → Calls Tryz.prog 49 #[pt p] W fun e w' => e = .returned (.string (bs (tok s))) ∧ At w0 w' p (aft s) ∧ Turned (· = p) W w') := BG.name
  have FI : Hid (∀ W bm, W.heap[bm]? = some (.map (mapEa cnames) 13) → Calls Tryz.prog 50 #[.map (some bm), .string (bs (tok s))] W fun e w' => e = .returned (.int .i64 9) ∧ Turned (fun _ => False) W w') := BG.find
  have LO : Hid (p < w.heap.size) := BG.low
  have N1 : Hid (∀ b1 cs u1 l W, CS w0 w p b1 cs u1 l (.slice none 0 0) [] (aft s) W → Calls Tryz.prog 54 #[pt p] W fun e w' =>  e = .returned (.string (bs v1)) ∧ CS w0 w p b1 cs u1 l (.slice none 0 0) [] r1 w') := fun _ _ _ _ _ c => c.txt h1
  have N2 : Hid (∀ b1 cs u1 l W, CS w0 w p b1 cs u1 l (.slice none 0 0) [] r1 W → Calls Tryz.prog 52 #[pt p] W fun e w' =>  e = .panicked [wrongE] ∧ Turned (· = p) w w') := fun _ _ _ _ _ c => c.num_no h2
  clear h hk BG h1 h2
  go_enter Tryz.func30, Tryz.ntmps30
  go_wp2_with (first
    | (go_at_call 49; (with_reducible refine (NA.out _ ((Turned.refl (fun _ => False) w).new _)).mono ?_); rintro e w1 ⟨rfl, ha, ht⟩
       have X1 : Hid (At w0 w1 p (aft s) ∧ Turned (· = p) w w1 ∧ w1.heap[w.heap.size]? = some (.cells zero11 39 (0, 0))) := ⟨ha, ((Turned.refl (· = p) w).new _).trans ht fun _ _ q => q, (ht.block _ (by simp) (by have := LO.out; omega)).trans (heap_alloc_new w _)⟩
       have q51 := names_any w1
       clear ha ht)
    | (go_at_call 51; (with_reducible refine q51.mono ?_); rintro e w2 ⟨rfl, hm, ht⟩
       have X2 : Hid (Turned (fun _ => False) w1 w2) := ht
       have q50 := FI.out w2 w1.heap.size hm
       clear hm ht q51)
    | (go_at_call 50; (with_reducible refine q50.mono ?_); rintro e w3 ⟨rfl, ht⟩
       have C0 : Hid (CS w0 w p w3.heap.size #[.int .i64 9, .slice none 0 0, .string ⟨#[]⟩, .string ⟨#[]⟩, .slice none 0 0, .int .i64 0, .int .i64 0, .int .i64 0, .int .i64 0, .slice none 0 0, .string ⟨#[]⟩] (.slice none 0 0) [] (.slice none 0 0) [] (aft s) (w3.alloc (.cells #[.int .i64 9, .slice none 0 0, .string ⟨#[]⟩, .string ⟨#[]⟩, .slice none 0 0, .int .i64 0, .int .i64 0, .int .i64 0, .int .i64 0, .slice none 0 0, .string ⟨#[]⟩] 39))) := CS.first (k := 9) (X1.out.1.turned (X2.out.trans ht fun _ _ q => q)) (X1.out.2.1.trans (X2.out.trans ht fun _ _ q => q) fun _ _ q => q.elim) (((X2.out.trans ht fun _ _ q => q).block _ (lt_of_block X1.out.2.2) id).trans X1.out.2.2) LO.out
       clear ht q50)
    | (go_at_call 54; (with_reducible refine (N1.out _ _ _ _ _ (C0.out)).mono ?_); rintro e w4 ⟨rfl, hc⟩
       have C1 : Hid (CS w0 w p w3.heap.size #[.int .i64 9, .slice none 0 0, .string ⟨#[]⟩, .string ⟨#[]⟩, .slice none 0 0, .int .i64 0, .int .i64 0, .int .i64 0, .int .i64 0, .slice none 0 0, .string ⟨#[]⟩] (.slice none 0 0) [] (.slice none 0 0) [] r1 w4) := hc
       have k1 := cell_of hc.box 2 _ rfl; have f1 := free_of hc.box 2; have m1 := lt_of_block hc.box; clear hc)
    | (go_at_call 52; (with_reducible refine (N2.out _ _ _ _ _ ((C1.out.put 2 (.string (bs v1))))).mono ?_); rintro e w5 ⟨rfl, ht⟩))
  exact ⟨rfl, rfl, ht⟩

set_option maxRecDepth 100000 in
set_option maxHeartbeats 1000000 in
theorem cmd_9_2 (w0 w : World) (p : Nat) (s : B) (h : At w0 w p s) (hk : kindIn cnames (tok s) = 9) (v1 : B) (r1 : B) (h1 : pText (aft s) = some (v1, r1)) (v2 : Int) (r2 : B) (h2 : pNum r1 = some (v2, r2)) (h3 : pText r2 = none) :
    Calls Tryz.prog 30 #[pt p] w (CmdPost w p (none)) := by
  have BG := Begin.of h hk
  have NA : Hid (∀ W, Turned (fun _ => False) w W → Calls Tryz.prog 49 #[pt p] W fun e w' => e = .returned (.string (bs (tok s))) ∧ At w0 w' p (aft s) ∧ Turned (· = p) W w') := BG.name
  have FI : Hid (∀ W bm, W.heap[bm]? = some (.map (mapEa cnames) 13) → Calls Tryz.prog 50 #[.map (some bm), .string (bs (tok s))] W fun e w' => e = .returned (.int .i64 9) ∧ Turned (fun _ => False) W w') := BG.find
  have LO : Hid (p < w.heap.size) := BG.low
  have N1 : Hid (∀ b1 cs u1 l W, CS w0 w p b1 cs u1 l (.slice none 0 0) [] (aft s) W → Calls Tryz.prog 54 #[pt p] W fun e w' =>  e = .returned (.string (bs v1)) ∧ CS w0 w p b1 cs u1 l (.slice none 0 0) [] r1 w') := fun _ _ _ _ _ c => c.txt h1
  have N2 : Hid (∀ b1 cs u1 l W, CS w0 w p b1 cs u1 l (.slice none 0 0) [] r1 W → Calls Tryz.prog 52 #[pt p] W fun e w' =>  e = .returned (.int .i64 v2) ∧ CS w0 w p b1 cs u1 l (.slice none 0 0) [] r2 w') := fun _ _ _ _ _ c => c.num h2
  have N3 : Hid (∀ b1 cs u1 l W, CS w0 w p b1 cs u1 l (.slice none 0 0) [] r2 W → Calls Tryz.prog 54 #[pt p] W fun e w' =>  e = .panicked [wrongE] ∧ Turned (· = p) w w') := fun _ _ _ _ _ c => c.txt_no h3
  clear h hk BG h1 h2 h3
  go_enter Tryz.func30, Tryz.ntmps30
  go_wp2_with (first
    | (go_at_call 49; (with_reducible refine (NA.out _ ((Turned.refl (fun _ => False) w).new _)).mono ?_); rintro e w1 ⟨rfl, ha, ht⟩
       have X1 : Hid (At w0 w1 p (aft s) ∧ Turned (· = p) w w1 ∧ w1.heap[w.heap.size]? = some (.cells zero11 39 (0, 0))) := ⟨ha, ((Turned.refl (· = p) w).new _).trans ht fun _ _ q => q, (ht.block _ (by simp) (by have := LO.out; omega)).trans (heap_alloc_new w _)⟩
       have q51 := names_any w1
       clear ha ht)
    | (go_at_call 51; (with_reducible refine q51.mono ?_); rintro e w2 ⟨rfl, hm, ht⟩
       have X2 : Hid (Turned (fun _ => False) w1 w2) := ht
       have q50 := FI.out w2 w1.heap.size hm
       clear hm ht q51)
    | (go_at_call 50; (with_reducible refine q50.mono ?_); rintro e w3 ⟨rfl, ht⟩
       have C0 : Hid (CS w0 w p w3.heap.size #[.int .i64 9, .slice none 0 0, .string ⟨#[]⟩, .string ⟨#[]⟩, .slice none 0 0, .int .i64 0, .int .i64 0, .int .i64 0, .int .i64 0, .slice none 0 0, .string ⟨#[]⟩] (.slice none 0 0) [] (.slice none 0 0) [] (aft s) (w3.alloc (.cells #[.int .i64 9, .slice none 0 0, .string ⟨#[]⟩, .string ⟨#[]⟩, .slice none 0 0, .int .i64 0, .int .i64 0, .int .i64 0, .int .i64 0, .slice none 0 0, .string ⟨#[]⟩] 39))) := CS.first (k := 9) (X1.out.1.turned (X2.out.trans ht fun _ _ q => q)) (X1.out.2.1.trans (X2.out.trans ht fun _ _ q => q) fun _ _ q => q.elim) (((X2.out.trans ht fun _ _ q => q).block _ (lt_of_block X1.out.2.2) id).trans X1.out.2.2) LO.out
       clear ht q50)
    | (go_at_call 54; (with_reducible refine (N1.out _ _ _ _ _ (C0.out)).mono ?_); rintro e w4 ⟨rfl, hc⟩
       have C1 : Hid (CS w0 w p w3.heap.size #[.int .i64 9, .slice none 0 0, .string ⟨#[]⟩, .string ⟨#[]⟩, .slice none 0 0, .int .i64 0, .int .i64 0, .int .i64 0, .int .i64 0, .slice none 0 0, .string ⟨#[]⟩] (.slice none 0 0) [] (.slice none 0 0) [] r1 w4) := hc
       have k1 := cell_of hc.box 2 _ rfl; have f1 := free_of hc.box 2; have m1 := lt_of_block hc.box; clear hc)
    | (go_at_call 52; (with_reducible refine (N2.out _ _ _ _ _ ((C1.out.put 2 (.string (bs v1))))).mono ?_); rintro e w5 ⟨rfl, hc⟩
       have C2 : Hid (CS w0 w p w3.heap.size #[.int .i64 9, .slice none 0 0, .string (bs v1), .string ⟨#[]⟩, .slice none 0 0, .int .i64 0, .int .i64 0, .int .i64 0, .int .i64 0, .slice none 0 0, .string ⟨#[]⟩] (.slice none 0 0) [] (.slice none 0 0) [] r2 w5) := hc
       have k2 := cell_of hc.box 1 _ rfl; have f2 := free_of hc.box 1; have m2 := lt_of_block hc.box; clear hc k1 f1 m1)
    | (go_at_call 54; (with_reducible refine (N3.out _ _ _ _ _ ((C2.out.one v2))).mono ?_); rintro e w6 ⟨rfl, ht⟩))
  exact ⟨rfl, rfl, ht⟩

set_option maxRecDepth 100000 in
set_option maxHeartbeats 1000000 in
theorem cmd_9_end (w0 w : World) (p : Nat) (s : B) (h : At w0 w p s) (hk : kindIn cnames (tok s) = 9) (v1 : B) (r1 : B) (h1 : pText (aft s) = some (v1, r1)) (v2 : Int) (r2 : B) (h2 : pNum r1 = some (v2, r2)) (v3 : B) (r3 : B) (h3 : pText r2 = some (v3, r3)) (he : r3 = []) :
    Calls Tryz.prog 30 #[pt p] w (CmdPost w p (some { kind := 9, nums := [v2], text := v1, more := v3 })) := by
  subst he
  have BG := Begin.of h hk
  have NA : Hid (∀ W, Turned (fun _ => False) w W → Calls Tryz.prog 49 #[pt p] W fun e w' => e = .returned (.string (bs (tok s))) ∧ At w0 w' p (aft s) ∧ Turned (· = p) W w') := BG.name
  have FI : Hid (∀ W bm, W.heap[bm]? = some (.map (mapEa cnames) 13) → Calls Tryz.prog 50 #[.map (some bm), .string (bs (tok s))] W fun e w' => e = .returned (.int .i64 9) ∧ Turned (fun _ => False) W w') := BG.find
  have LO : Hid (p < w.heap.size) := BG.low
  have N1 : Hid (∀ b1 cs u1 l W, CS w0 w p b1 cs u1 l (.slice none 0 0) [] (aft s) W → Calls Tryz.prog 54 #[pt p] W fun e w' =>  e = .returned (.string (bs v1)) ∧ CS w0 w p b1 cs u1 l (.slice none 0 0) [] r1 w') := fun _ _ _ _ _ c => c.txt h1
  have N2 : Hid (∀ b1 cs u1 l W, CS w0 w p b1 cs u1 l (.slice none 0 0) [] r1 W → Calls Tryz.prog 52 #[pt p] W fun e w' =>  e = .returned (.int .i64 v2) ∧ CS w0 w p b1 cs u1 l (.slice none 0 0) [] r2 w') := fun _ _ _ _ _ c => c.num h2
  have N3 : Hid (∀ b1 cs u1 l W, CS w0 w p b1 cs u1 l (.slice none 0 0) [] r2 W → Calls Tryz.prog 54 #[pt p] W fun e w' =>  e = .returned (.string (bs v3)) ∧ CS w0 w p b1 cs u1 l (.slice none 0 0) [] [] w') := fun _ _ _ _ _ c => c.txt h3
  have M : Hid (∀ b1 cs u1 l W, CS w0 w p b1 cs u1 l (.slice none 0 0) [] [] W → Calls Tryz.prog 53 #[pt p] W fun e w' => e = .returned (.bool false) ∧ w' = W) := fun _ _ _ _ _ c => c.more_end
  clear h hk BG h1 h2 h3
  go_enter Tryz.func30, Tryz.ntmps30
  go_upto_region 33 with (first
    | (go_at_call 49; (with_reducible refine (NA.out _ ((Turned.refl (fun _ => False) w).new _)).mono ?_); rintro e w1 ⟨rfl, ha, ht⟩
       have X1 : Hid (At w0 w1 p (aft s) ∧ Turned (· = p) w w1 ∧ w1.heap[w.heap.size]? = some (.cells zero11 39 (0, 0))) := ⟨ha, ((Turned.refl (· = p) w).new _).trans ht fun _ _ q => q, (ht.block _ (by simp) (by have := LO.out; omega)).trans (heap_alloc_new w _)⟩
       have q51 := names_any w1
       clear ha ht)
    | (go_at_call 51; (with_reducible refine q51.mono ?_); rintro e w2 ⟨rfl, hm, ht⟩
       have X2 : Hid (Turned (fun _ => False) w1 w2) := ht
       have q50 := FI.out w2 w1.heap.size hm
       clear hm ht q51)
    | (go_at_call 50; (with_reducible refine q50.mono ?_); rintro e w3 ⟨rfl, ht⟩
       have C0 : Hid (CS w0 w p w3.heap.size #[.int .i64 9, .slice none 0 0, .string ⟨#[]⟩, .string ⟨#[]⟩, .slice none 0 0, .int .i64 0, .int .i64 0, .int .i64 0, .int .i64 0, .slice none 0 0, .string ⟨#[]⟩] (.slice none 0 0) [] (.slice none 0 0) [] (aft s) (w3.alloc (.cells #[.int .i64 9, .slice none 0 0, .string ⟨#[]⟩, .string ⟨#[]⟩, .slice none 0 0, .int .i64 0, .int .i64 0, .int .i64 0, .int .i64 0, .slice none 0 0, .string ⟨#[]⟩] 39))) := CS.first (k := 9) (X1.out.1.turned (X2.out.trans ht fun _ _ q => q)) (X1.out.2.1.trans (X2.out.trans ht fun _ _ q => q) fun _ _ q => q.elim) (((X2.out.trans ht fun _ _ q => q).block _ (lt_of_block X1.out.2.2) id).trans X1.out.2.2) LO.out
       clear ht q50)
    | (go_at_call 54; (with_reducible refine (N1.out _ _ _ _ _ (C0.out)).mono ?_); rintro e w4 ⟨rfl, hc⟩
       have C1 : Hid (CS w0 w p w3.heap.size #[.int .i64 9, .slice none 0 0, .string ⟨#[]⟩, .string ⟨#[]⟩, .slice none 0 0, .int .i64 0, .int .i64 0, .int .i64 0, .int .i64 0, .slice none 0 0, .string ⟨#[]⟩] (.slice none 0 0) [] (.slice none 0 0) [] r1 w4) := hc
       have k1 := cell_of hc.box 2 _ rfl; have f1 := free_of hc.box 2; have m1 := lt_of_block hc.box; clear hc)
    | (go_at_call 52; (with_reducible refine (N2.out _ _ _ _ _ ((C1.out.put 2 (.string (bs v1))))).mono ?_); rintro e w5 ⟨rfl, hc⟩
       have C2 : Hid (CS w0 w p w3.heap.size #[.int .i64 9, .slice none 0 0, .string (bs v1), .string ⟨#[]⟩, .slice none 0 0, .int .i64 0, .int .i64 0, .int .i64 0, .int .i64 0, .slice none 0 0, .string ⟨#[]⟩] (.slice none 0 0) [] (.slice none 0 0) [] r2 w5) := hc
       have k2 := cell_of hc.box 1 _ rfl; have f2 := free_of hc.box 1; have m2 := lt_of_block hc.box; clear hc k1 f1 m1)
    | (go_at_call 54; (with_reducible refine (N3.out _ _ _ _ _ ((C2.out.one v2))).mono ?_); rintro e w6 ⟨rfl, hc⟩
       have C3 : Hid (CS w0 w p w3.heap.size #[.int .i64 9, .slice (some ⟨w5.heap.size, 0, none⟩) 1 1, .string (bs v1), .string ⟨#[]⟩, .slice none 0 0, .int .i64 0, .int .i64 0, .int .i64 0, .int .i64 0, .slice none 0 0, .string ⟨#[]⟩] (.slice (some ⟨w5.heap.size, 0, none⟩) 1 1) [v2] (.slice none 0 0) [] [] w6) := hc
       have k3 := cell_of hc.box 3 _ rfl; have f3 := free_of hc.box 3; have m3 := lt_of_block hc.box; clear hc k2 f2 m2)
    | (go_at_call 53; (with_reducible refine (M.out _ _ _ _ _ (C3.out.put 3 (.string (bs v3)))).mono ?_); rintro e w9 ⟨rfl, rfl⟩))
  refine wp_region_lit ?_
  refine wpList_load_row rfl 39 _ rfl w3.heap.size rfl 39 #[.int .i64 9, .slice (some ⟨w5.heap.size, 0, none⟩) 1 1, .string (bs v1), .string (bs v3), .slice none 0 0, .int .i64 0, .int .i64 0, .int .i64 0, .int .i64 0, .slice none 0 0, .string ⟨#[]⟩] (0, 0) _ ((C3.out.put 3 (.string (bs v3)))).box Tryz.underlying39 rfl info39 ?_
  refine wpList_store_row rfl 39 _ _ rfl w.heap.size #[.int .i64 9, .slice (some ⟨w5.heap.size, 0, none⟩) 1 1, .string (bs v1), .string (bs v3), .slice none 0 0, .int .i64 0, .int .i64 0, .int .i64 0, .int .i64 0, .slice none 0 0, .string ⟨#[]⟩] zero11 39 rfl rfl ((C3.out.put 3 (.string (bs v3)))).res info39 rfl (by simp [Value.oneCell']) ?_
  intro wE hE htE _
  go_wp2
  refine cmd_ret rfl hE ?_
  have F := CS.fin (c := { kind := 9, nums := [v2], text := v1, more := v3 }) (C3.out.put 3 (.string (bs v3))) htE (Sl.nil _ _ _ _)
  exact ⟨⟨_, rfl, F.1⟩, F.2⟩

set_option maxRecDepth 100000 in
set_option maxHeartbeats 1000000 in
theorem cmd_9_on (w0 w : World) (p : Nat) (s : B) (h : At w0 w p s) (hk : kindIn cnames (tok s) = 9) (v1 : B) (r1 : B) (h1 : pText (aft s) = some (v1, r1)) (v2 : Int) (r2 : B) (h2 : pNum r1 = some (v2, r2)) (v3 : B) (r3 : B) (h3 : pText r2 = some (v3, r3)) (he : r3 ≠ []) :
    Calls Tryz.prog 30 #[pt p] w (CmdPost w p (none)) := by
  have BG := Begin.of h hk
  have NA : Hid (∀ W, Turned (fun _ => False) w W → Calls Tryz.prog 49 #[pt p] W fun e w' => e = .returned (.string (bs (tok s))) ∧ At w0 w' p (aft s) ∧ Turned (· = p) W w') := BG.name
  have FI : Hid (∀ W bm, W.heap[bm]? = some (.map (mapEa cnames) 13) → Calls Tryz.prog 50 #[.map (some bm), .string (bs (tok s))] W fun e w' => e = .returned (.int .i64 9) ∧ Turned (fun _ => False) W w') := BG.find
  have LO : Hid (p < w.heap.size) := BG.low
  have N1 : Hid (∀ b1 cs u1 l W, CS w0 w p b1 cs u1 l (.slice none 0 0) [] (aft s) W → Calls Tryz.prog 54 #[pt p] W fun e w' =>  e = .returned (.string (bs v1)) ∧ CS w0 w p b1 cs u1 l (.slice none 0 0) [] r1 w') := fun _ _ _ _ _ c => c.txt h1
  have N2 : Hid (∀ b1 cs u1 l W, CS w0 w p b1 cs u1 l (.slice none 0 0) [] r1 W → Calls Tryz.prog 52 #[pt p] W fun e w' =>  e = .returned (.int .i64 v2) ∧ CS w0 w p b1 cs u1 l (.slice none 0 0) [] r2 w') := fun _ _ _ _ _ c => c.num h2
  have N3 : Hid (∀ b1 cs u1 l W, CS w0 w p b1 cs u1 l (.slice none 0 0) [] r2 W → Calls Tryz.prog 54 #[pt p] W fun e w' =>  e = .returned (.string (bs v3)) ∧ CS w0 w p b1 cs u1 l (.slice none 0 0) [] r3 w') := fun _ _ _ _ _ c => c.txt h3
  have M : Hid (∀ b1 cs u1 l W, CS w0 w p b1 cs u1 l (.slice none 0 0) [] r3 W → Calls Tryz.prog 53 #[pt p] W fun e w' => e = .returned (.bool true) ∧ w' = W) := fun _ _ _ _ _ c => c.more_on he
  clear h hk BG h1 h2 h3 he
  go_enter Tryz.func30, Tryz.ntmps30
  go_wp2_with (first
    | (go_at_call 49; (with_reducible refine (NA.out _ ((Turned.refl (fun _ => False) w).new _)).mono ?_); rintro e w1 ⟨rfl, ha, ht⟩
       have X1 : Hid (At w0 w1 p (aft s) ∧ Turned (· = p) w w1 ∧ w1.heap[w.heap.size]? = some (.cells zero11 39 (0, 0))) := ⟨ha, ((Turned.refl (· = p) w).new _).trans ht fun _ _ q => q, (ht.block _ (by simp) (by have := LO.out; omega)).trans (heap_alloc_new w _)⟩
       have q51 := names_any w1
       clear ha ht)
    | (go_at_call 51; (with_reducible refine q51.mono ?_); rintro e w2 ⟨rfl, hm, ht⟩
       have X2 : Hid (Turned (fun _ => False) w1 w2) := ht
       have q50 := FI.out w2 w1.heap.size hm
       clear hm ht q51)
    | (go_at_call 50; (with_reducible refine q50.mono ?_); rintro e w3 ⟨rfl, ht⟩
       have C0 : Hid (CS w0 w p w3.heap.size #[.int .i64 9, .slice none 0 0, .string ⟨#[]⟩, .string ⟨#[]⟩, .slice none 0 0, .int .i64 0, .int .i64 0, .int .i64 0, .int .i64 0, .slice none 0 0, .string ⟨#[]⟩] (.slice none 0 0) [] (.slice none 0 0) [] (aft s) (w3.alloc (.cells #[.int .i64 9, .slice none 0 0, .string ⟨#[]⟩, .string ⟨#[]⟩, .slice none 0 0, .int .i64 0, .int .i64 0, .int .i64 0, .int .i64 0, .slice none 0 0, .string ⟨#[]⟩] 39))) := CS.first (k := 9) (X1.out.1.turned (X2.out.trans ht fun _ _ q => q)) (X1.out.2.1.trans (X2.out.trans ht fun _ _ q => q) fun _ _ q => q.elim) (((X2.out.trans ht fun _ _ q => q).block _ (lt_of_block X1.out.2.2) id).trans X1.out.2.2) LO.out
       clear ht q50)
    | (go_at_call 54; (with_reducible refine (N1.out _ _ _ _ _ (C0.out)).mono ?_); rintro e w4 ⟨rfl, hc⟩
       have C1 : Hid (CS w0 w p w3.heap.size #[.int .i64 9, .slice none 0 0, .string ⟨#[]⟩, .string ⟨#[]⟩, .slice none 0 0, .int .i64 0, .int .i64 0, .int .i64 0, .int .i64 0, .slice none 0 0, .string ⟨#[]⟩] (.slice none 0 0) [] (.slice none 0 0) [] r1 w4) := hc
       have k1 := cell_of hc.box 2 _ rfl; have f1 := free_of hc.box 2; have m1 := lt_of_block hc.box; clear hc)
    | (go_at_call 52; (with_reducible refine (N2.out _ _ _ _ _ ((C1.out.put 2 (.string (bs v1))))).mono ?_); rintro e w5 ⟨rfl, hc⟩
       have C2 : Hid (CS w0 w p w3.heap.size #[.int .i64 9, .slice none 0 0, .string (bs v1), .string ⟨#[]⟩, .slice none 0 0, .int .i64 0, .int .i64 0, .int .i64 0, .int .i64 0, .slice none 0 0, .string ⟨#[]⟩] (.slice none 0 0) [] (.slice none 0 0) [] r2 w5) := hc
       have k2 := cell_of hc.box 1 _ rfl; have f2 := free_of hc.box 1; have m2 := lt_of_block hc.box; clear hc k1 f1 m1)
    | (go_at_call 54; (with_reducible refine (N3.out _ _ _ _ _ ((C2.out.one v2))).mono ?_); rintro e w6 ⟨rfl, hc⟩
       have C3 : Hid (CS w0 w p w3.heap.size #[.int .i64 9, .slice (some ⟨w5.heap.size, 0, none⟩) 1 1, .string (bs v1), .string ⟨#[]⟩, .slice none 0 0, .int .i64 0, .int .i64 0, .int .i64 0, .int .i64 0, .slice none 0 0, .string ⟨#[]⟩] (.slice (some ⟨w5.heap.size, 0, none⟩) 1 1) [v2] (.slice none 0 0) [] r3 w6) := hc
       have k3 := cell_of hc.box 3 _ rfl; have f3 := free_of hc.box 3; have m3 := lt_of_block hc.box; clear hc k2 f2 m2)
    | (go_at_call 53; (with_reducible refine (M.out _ _ _ _ _ (C3.out.put 3 (.string (bs v3)))).mono ?_); rintro e w9 ⟨rfl, rfl⟩))
  exact ⟨rfl, rfl, ((C3.out.put 3 (.string (bs v3)))).turn⟩

set_option maxRecDepth 100000 in
set_option maxHeartbeats 1000000 in
theorem cmd_10_0 (w0 w : World) (p : Nat) (s : B) (h : At w0 w p s) (hk : kindIn cnames (tok s) = 10) (h1 : pText (aft s) = none) :
    Calls Tryz.prog 30 #[pt p] w (CmdPost w p (none)) := by
  have BG := Begin.of h hk
  have NA : Hid (∀ W, Turned (fun _ => False) w W → Calls Tryz.prog 49 #[pt p] W fun e w' => e = .returned (.string (bs (tok s))) ∧ At w0 w' p (aft s) ∧ Turned (· = p) W w') := BG.name
  have FI : Hid (∀ W bm, W.heap[bm]? = some (.map (mapEa cnames) 13) → Calls Tryz.prog 50 #[.map (some bm), .string (bs (tok s))] W fun e w' => e = .returned (.int .i64 10) ∧ Turned (fun _ => False) W w') := BG.find
  have LO : Hid (p < w.heap.size) := BG.low
  have N1 : Hid (∀ b1 cs u1 l W, CS w0 w p b1 cs u1 l (.slice none 0 0) [] (aft s) W → Calls Tryz.prog 54 #[pt p] W fun e w' =>  e = .panicked [wrongE] ∧ Turned (· = p) w w') := fun _ _ _ _ _ c => c.txt_no h1
  clear h hk BG h1
  go_enter Tryz.func30, Tryz.ntmps30
  go_wp2_with (first
    | (go_at_call 49; (with_reducible refine (NA.out _ ((Turned.refl (fun _ => False) w).new _)).mono ?_); rintro e w1 ⟨rfl, ha, ht⟩
       have X1 : Hid (At w0 w1 p (aft s) ∧ Turned (· = p) w w1 ∧ w1.heap[w.heap.size]? = some (.cells zero11 39 (0, 0))) := ⟨ha, ((Turned.refl (· = p) w).new _).trans ht fun _ _ q => q, (ht.block _ (by simp) (by have := LO.out; omega)).trans (heap_alloc_new w _)⟩
       have q51 := names_any w1
       clear ha ht)
    | (go_at_call 51; (with_reducible refine q51.mono ?_); rintro e w2 ⟨rfl, hm, ht⟩
       have X2 : Hid (Turned (fun _ => False) w1 w2) := ht
       have q50 := FI.out w2 w1.heap.size hm
       clear hm ht q51)
    | (go_at_call 50; (with_reducible refine q50.mono ?_); rintro e w3 ⟨rfl, ht⟩
       have C0 : Hid (CS w0 w p w3.heap.size #[.int .i64 10, .slice none 0 0, .string ⟨#[]⟩, .string ⟨#[]⟩, .slice none 0 0, .int .i64 0, .int .i64 0, .int .i64 0, .int .i64 0, .slice none 0 0, .string ⟨#[]⟩] (.slice none 0 0) [] (.slice none 0 0) [] (aft s) (w3.alloc (.cells #[.int .i64 10, .slice none 0 0, .string ⟨#[]⟩, .string ⟨#[]⟩, .slice none 0 0, .int .i64 0, .int .i64 0, .int .i64 0, .int .i64 0, .slice none 0 0, .string ⟨#[]⟩] 39))) := CS.first (k := 10) (X1.out.1.turned (X2.out.trans ht fun _ _ q => q)) (X1.out.2.1.trans (X2.out.trans ht fun _ _ q => q) fun _ _ q => q.elim) (((X2.out.trans ht fun _ _ q => q).block _ (lt_of_block X1.out.2.2) id).trans X1.out.2.2) LO.out
       clear ht q50)
    | (go_at_call 54; (with_reducible refine (N1.out _ _ _ _ _ (C0.out)).mono ?_); rintro e w4 ⟨rfl, ht⟩))
  exact ⟨rfl, rfl, ht⟩

set_option maxRecDepth 100000 in
set_option maxHeartbeats 1000000 in
theorem cmd_10_end (w0 w : World) (p : Nat) (s : B) (h : At w0 w p s) (hk : kindIn cnames (tok s) = 10) (v1 : B) (r1 : B) (h1 : pText (aft s) = some (v1, r1)) (he : r1 = []) :
    Calls Tryz.prog 30 #[pt p] w (CmdPost w p (some { kind := 10, text := v1 })) := by
  subst he
  have BG := Begin.of h hk
  have NA : Hid (∀ W, Turned (fun _ => False) w W → Calls Tryz.prog 49 #[pt p] W fun e w' => e = .returned (.string (bs (tok s))) ∧ At w0 w' p (aft s) ∧ Turned (· = p) W w') := BG.name
  have FI : Hid (∀ W bm, W.heap[bm]? = some (.map (mapEa cnames) 13) → Calls Tryz.prog 50 #[.map (some bm), .string (bs (tok s))] W fun e w' => e = .returned (.int .i64 10) ∧ Turned (fun _ => False) W w') := BG.find
  have LO : Hid (p < w.heap.size) := BG.low
  have N1 : Hid (∀ b1 cs u1 l W, CS w0 w p b1 cs u1 l (.slice none 0 0) [] (aft s) W → Calls Tryz.prog 54 #[pt p] W fun e w' =>  e = .returned (.string (bs v1)) ∧ CS w0 w p b1 cs u1 l (.slice none 0 0) [] [] w') := fun _ _ _ _ _ c => c.txt h1
  have M : Hid (∀ b1 cs u1 l W, CS w0 w p b1 cs u1 l (.slice none 0 0) [] [] W → Calls Tryz.prog 53 #[pt p] W fun e w' => e = .returned (.bool false) ∧ w' = W) := fun _ _ _ _ _ c => c.more_end
  clear h hk BG h1
  go_enter Tryz.func30, Tryz.ntmps30
  go_upto_region 33 with (first
    | (go_at_call 49; (with_reducible refine (NA.out _ ((Turned.refl (fun _ => False) w).new _)).mono ?_); rintro e w1 ⟨rfl, ha, ht⟩
       have X1 : Hid (At w0 w1 p (aft s) ∧ Turned (· = p) w w1 ∧ w1.heap[w.heap.size]? = some (.cells zero11 39 (0, 0))) := ⟨ha, ((Turned.refl (· = p) w).new _).trans ht fun _ _ q => q, (ht.block _ (by simp) (by have := LO.out; omega)).trans (heap_alloc_new w _)⟩
       have q51 := names_any w1
       clear ha ht)
    | (go_at_call 51; (with_reducible refine q51.mono ?_); rintro e w2 ⟨rfl, hm, ht⟩
       have X2 : Hid (Turned (fun _ => False) w1 w2) := ht
       have q50 := FI.out w2 w1.heap.size hm
       clear hm ht q51)
    | (go_at_call 50; (with_reducible refine q50.mono ?_); rintro e w3 ⟨rfl, ht⟩
       have C0 : Hid (CS w0 w p w3.heap.size #[.int .i64 10, .slice none 0 0, .string ⟨#[]⟩, .string ⟨#[]⟩, .slice none 0 0, .int .i64 0, .int .i64 0, .int .i64 0, .int .i64 0, .slice none 0 0, .string ⟨#[]⟩] (.slice none 0 0) [] (.slice none 0 0) [] (aft s) (w3.alloc (.cells #[.int .i64 10, .slice none 0 0, .string ⟨#[]⟩, .string ⟨#[]⟩, .slice none 0 0, .int .i64 0, .int .i64 0, .int .i64 0, .int .i64 0, .slice none 0 0, .string ⟨#[]⟩] 39))) := CS.first (k := 10) (X1.out.1.turned (X2.out.trans ht fun _ _ q => q)) (X1.out.2.1.trans (X2.out.trans ht fun _ _ q => q) fun _ _ q => q.elim) (((X2.out.trans ht fun _ _ q => q).block _ (lt_of_block X1.out.2.2) id).trans X1.out.2.2) LO.out
       clear ht q50)
    | (go_at_call 54; (with_reducible refine (N1.out _ _ _ _ _ (C0.out)).mono ?_); rintro e w4 ⟨rfl, hc⟩
       have C1 : Hid (CS w0 w p w3.heap.size #[.int .i64 10, .slice none 0 0, .string ⟨#[]⟩, .string ⟨#[]⟩, .slice none 0 0, .int .i64 0, .int .i64 0, .int .i64 0, .int .i64 0, .slice none 0 0, .string ⟨#[]⟩] (.slice none 0 0) [] (.slice none 0 0) [] [] w4) := hc
       have k1 := cell_of hc.box 2 _ rfl; have f1 := free_of hc.box 2; have m1 := lt_of_block hc.box; clear hc)
    | (go_at_call 53; (with_reducible refine (M.out _ _ _ _ _ (C1.out.put 2 (.string (bs v1)))).mono ?_); rintro e w9 ⟨rfl, rfl⟩))
  refine wp_region_lit ?_
  refine wpList_load_row rfl 39 _ rfl w3.heap.size rfl 39 #[.int .i64 10, .slice none 0 0, .string (bs v1), .string ⟨#[]⟩, .slice none 0 0, .int .i64 0, .int .i64 0, .int .i64 0, .int .i64 0, .slice none 0 0, .string ⟨#[]⟩] (0, 0) _ ((C1.out.put 2 (.string (bs v1)))).box Tryz.underlying39 rfl info39 ?_
  refine wpList_store_row rfl 39 _ _ rfl w.heap.size #[.int .i64 10, .slice none 0 0, .string (bs v1), .string ⟨#[]⟩, .slice none 0 0, .int .i64 0, .int .i64 0, .int .i64 0, .int .i64 0, .slice none 0 0, .string ⟨#[]⟩] zero11 39 rfl rfl ((C1.out.put 2 (.string (bs v1)))).res info39 rfl (by simp [Value.oneCell']) ?_
  intro wE hE htE _
  go_wp2
  refine cmd_ret rfl hE ?_
  have F := CS.fin (c := { kind := 10, text := v1 }) (C1.out.put 2 (.string (bs v1))) htE (Sl.nil _ _ _ _)
  exact ⟨⟨_, rfl, F.1⟩, F.2⟩

set_option maxRecDepth 100000 in
set_option maxHeartbeats 1000000 in
theorem cmd_10_on (w0 w : World) (p : Nat) (s : B) (h : At w0 w p s) (hk : kindIn cnames (tok s) = 10) (v1 : B) (r1 : B) (h1 : pText (aft s) = some (v1, r1)) (he : r1 ≠ []) :
    Calls Tryz.prog 30 #[pt p] w (CmdPost w p (none)) := by
  have BG := Begin.of h hk
  have NA : Hid (∀ W, Turned (fun _ => False) w W → Calls Tryz.prog 49 #[pt p] W fun e w' => e = .returned (.string (bs (tok s))) ∧ At w0 w' p (aft s) ∧ Turned (· = p) W w') := BG.name
  have FI : Hid (∀ W bm, W.heap[bm]? = some (.map (mapEa cnames) 13) → Calls Tryz.prog 50 #[.map (some bm), .string (bs (tok s))] W fun e w' => e = .returned (.int .i64 10) ∧ Turned (fun _ => False) W w') := BG.find
  have LO : Hid (p < w.heap.size) := BG.low
  have N1 : Hid (∀ b1 cs u1 l W, CS w0 w p b1 cs u1 l (.slice none 0 0) [] (aft s) W → Calls Tryz.prog 54 #[pt p] W fun e w' =>  e = .returned (.string (bs v1)) ∧ CS w0 w p b1 cs u1 l (.slice none 0 0) [] r1 w') := fun _ _ _ _ _ c => c.txt h1
  have M : Hid (∀ b1 cs u1 l W, CS w0 w p b1 cs u1 l (.slice none 0 0) [] r1 W → Calls Tryz.prog 53 #[pt p] W fun e w' => e = .returned (.bool true) ∧ w' = W) := fun _ _ _ _ _ c => c.more_on he
  clear h hk BG h1 he
  go_enter Tryz.func30, Tryz.ntmps30
  go_wp2_with (first
    | (go_at_call 49; (with_reducible refine (NA.out _ ((Turned.refl (fun _ => False) w).new _)).mono ?_); rintro e w1 ⟨rfl, ha, ht⟩
       have X1 : Hid (At w0 w1 p (aft s) ∧ Turned (· = p) w w1 ∧ w1.heap[w.heap.size]? = some (.cells zero11 39 (0, 0))) := ⟨ha, ((Turned.refl (· = p) w).new _).trans ht fun _ _ q => q, (ht.block _ (by simp) (by have := LO.out; omega)).trans (heap_alloc_new w _)⟩
       have q51 := names_any w1
       clear ha ht)
    | (go_at_call 51; (with_reducible refine q51.mono ?_); rintro e w2 ⟨rfl, hm, ht⟩
       have X2 : Hid (Turned (fun _ => False) w1 w2) := ht
       have q50 := FI.out w2 w1.heap.size hm
       clear hm ht q51)
    | (go_at_call 50; (with_reducible refine q50.mono ?_); rintro e w3 ⟨rfl, ht⟩
       have C0 : Hid (CS w0 w p w3.heap.size #[.int .i64 10, .slice none 0 0, .string ⟨#[]⟩, .string ⟨#[]⟩, .slice none 0 0, .int .i64 0, .int .i64 0, .int .i64 0, .int .i64 0, .slice none 0 0, .string ⟨#[]⟩] (.slice none 0 0) [] (.slice none 0 0) [] (aft s) (w3.alloc (.cells #[.int .i64 10, .slice none 0 0, .string ⟨#[]⟩, .string ⟨#[]⟩, .slice none 0 0, .int .i64 0, .int .i64 0, .int .i64 0, .int .i64 0, .slice none 0 0, .string ⟨#[]⟩] 39))) := CS.first (k := 10) (X1.out.1.turned (X2.out.trans ht fun _ _ q => q)) (X1.out.2.1.trans (X2.out.trans ht fun _ _ q => q) fun _ _ q => q.elim) (((X2.out.trans ht fun _ _ q => q).block _ (lt_of_block X1.out.2.2) id).trans X1.out.2.2) LO.out
       clear ht q50)
    | (go_at_call 54; (with_reducible refine (N1.out _ _ _ _ _ (C0.out)).mono ?_); rintro e w4 ⟨rfl, hc⟩
       have C1 : Hid (CS w0 w p w3.heap.size #[.int .i64 10, .slice none 0 0, .string ⟨#[]⟩, .string ⟨#[]⟩, .slice none 0 0, .int .i64 0, .int .i64 0, .int .i64 0, .int .i64 0, .slice none 0 0, .string ⟨#[]⟩] (.slice none 0 0) [] (.slice none 0 0) [] r1 w4) := hc
       have k1 := cell_of hc.box 2 _ rfl; have f1 := free_of hc.box 2; have m1 := lt_of_block hc.box; clear hc)
    | (go_at_call 53; (with_reducible refine (M.out _ _ _ _ _ (C1.out.put 2 (.string (bs v1)))).mono ?_); rintro e w9 ⟨rfl, rfl⟩))
  exact ⟨rfl, rfl, ((C1.out.put 2 (.string (bs v1)))).turn⟩

set_option maxRecDepth 100000 in
set_option maxHeartbeats 1000000 in
theorem cmd_11_0 (w0 w : World) (p : Nat) (s : B) (h : At w0 w p s) (hk : kindIn cnames (tok s) = 11) (h1 : pText (aft s) = none) :
    Calls Tryz.prog 30 #[pt p] w (CmdPost w p (none)) := by
  have BG := Begin.of h hk
  have NA : Hid (∀ W, Turned (fun _ => False) w W → Calls Tryz.prog 49 #[pt p] W fun e w' => e = .returned (.string (bs (tok s))) ∧ At w0 w' p (aft s) ∧ Turned (· = p) W w') := BG.name
  have FI : Hid (∀ W bm, W.heap[bm]? = some (.map (mapEa cnames) 13) → Calls Tryz.prog 50 #[.map (some bm), .string (bs (tok s))] W fun e w' => e = .returned (.int .i64 11) ∧ Turned (fun _ => False) W w') := BG.find
  have LO : Hid (p < w.heap.size) := BG.low
  have N1 : Hid (∀ b1 cs u1 l W, CS w0 w p b1 cs u1 l (.slice none 0 0) [] (aft s) W → Calls Tryz.prog 54 #[pt p] W fun e w' =>  e = .panicked [wrongE] ∧ Turned (· = p) w w') := fun _ _ _ _ _ c => c.txt_no h1
  clear h hk BG h1
  go_enter Tryz.func30, Tryz.ntmps30
  go_wp2_with (first
    | (go_at_call 49; (with_reducible refine (NA.out _ ((Turned.refl (fun _ => False) w).new _)).mono ?_); rintro e w1 ⟨rfl, ha, ht⟩
       have X1 : Hid (At w0 w1 p (aft s) ∧ Turned (· = p) w w1 ∧ w1.heap[w.heap.size]? = some (.cells zero11 39 (0, 0))) := ⟨ha, ((Turned.refl (· = p) w).new _).trans ht fun _ _ q => q, (ht.block _ (by simp) (by have := LO.out; omega)).trans (heap_alloc_new w _)⟩
       have q51 := names_any w1
       clear ha ht)
    | (go_at_call 51; (with_reducible refine q51.mono ?_); rintro e w2 ⟨rfl, hm, ht⟩
       have X2 : Hid (Turned (fun _ => False) w1 w2) := ht
       have q50 := FI.out w2 w1.heap.size hm
       clear hm ht q51)
    | (go_at_call 50; (with_reducible refine q50.mono ?_); rintro e w3 ⟨rfl, ht⟩
       have C0 : Hid (CS w0 w p w3.heap.size #[.int .i64 11, .slice none 0 0, .string ⟨#[]⟩, .string ⟨#[]⟩, .slice none 0 0, .int .i64 0, .int .i64 0, .int .i64 0, .int .i64 0, .slice none 0 0, .string ⟨#[]⟩] (.slice none 0 0) [] (.slice none 0 0) [] (aft s) (w3.alloc (.cells #[.int .i64 11, .slice none 0 0, .string ⟨#[]⟩, .string ⟨#[]⟩, .slice none 0 0, .int .i64 0, .int .i64 0, .int .i64 0, .int .i64 0, .slice none 0 0, .string ⟨#[]⟩] 39))) := CS.first (k := 11) (X1.out.1.turned (X2.out.trans ht fun _ _ q => q)) (X1.out.2.1.trans (X2.out.trans ht fun _ _ q => q) fun _ _ q => q.elim) (((X2.out.trans ht fun _ _ q => q).block _ (lt_of_block X1.out.2.2) id).trans X1.out.2.2) LO.out
       clear ht q50)
    | (go_at_call 54; (with_reducible refine (N1.out _ _ _ _ _ (C0.out)).mono ?_); rintro e w4 ⟨rfl, ht⟩))
  exact ⟨rfl, rfl, ht⟩

set_option maxRecDepth 100000 in
set_option maxHeartbeats 1000000 in
theorem cmd_11_1 (w0 w : World) (p : Nat) (s : B) (h : At w0 w p s) (hk : kindIn cnames (tok s) = 11) (v1 : B) (r1 : B) (h1 : pText (aft s) = some (v1, r1)) (h2 : pNum r1 = none) :
    Calls Tryz.prog 30 #[pt p] w (CmdPost w p (none)) := by
  have BG := Begin.of h hk
  have NA : Hid (∀ W, Turned (fun _ => False) w W → Calls Tryz.prog 49 #[pt p] W fun e w' => e = .returned (.string (bs (tok s))) ∧ At w0 w' p (aft s) ∧ Turned (· = p) W w') := BG.name
  have FI : Hid (∀ W bm, W.heap[bm]? = some (.map (mapEa cnames) 13) → Calls Tryz.prog 50 #[.map (some bm), .string (bs (tok s))] W fun e w' => e = .returned (.int .i64 11) ∧ Turned (fun _ => False) W w') := BG.find
  have LO : Hid (p < w.heap.size) := BG.low
  have N1 : Hid (∀ b1 cs u1 l W, CS w0 w p b1 cs u1 l (.slice none 0 0) [] (aft s) W → Calls Tryz.prog 54 #[pt p] W fun e w' =>  e = .returned (.string (bs v1)) ∧ CS w0 w p b1 cs u1 l (.slice none 0 0) [] r1 w') := fun _ _ _ _ _ c => c.txt h1
  have N2 : Hid (∀ b1 cs u1 l W, CS w0 w p b1 cs u1 l (.slice none 0 0) [] r1 W → Calls Tryz.prog 52 #[pt p] W fun e w' =>  e = .panicked [wrongE] ∧ Turned (· = p) w w') := fun _ _ _ _ _ c => c.num_no h2
  clear h hk BG h1 h2
  go_enter Tryz.func30, Tryz.ntmps30
  go_wp2_with (first
    | (go_at_call 49; (with_reducible refine (NA.out _ ((Turned.refl (fun _ => False) w).new _)).mono ?_); rintro e w1 ⟨rfl, ha, ht⟩
       have X1 : Hid (At w0 w1 p (aft s) ∧ Turned (· = p) w w1 ∧ w1.heap[w.heap.size]? = some (.cells zero11 39 (0, 0))) := ⟨ha, ((Turned.refl (· = p) w).new _).trans ht fun _ _ q => q, (ht.block _ (by simp) (by have := LO.out; omega)).trans (heap_alloc_new w _)⟩
       have q51 := names_any w1
       clear ha ht)
    | (go_at_call 51; (with_reducible refine q51.mono ?_); rintro e w2 ⟨rfl, hm, ht⟩
       have X2 : Hid (Turned (fun _ => False) w1 w2) := ht
       have q50 := FI.out w2 w1.heap.size hm
       clear hm ht q51)
    | (go_at_call 50; (with_reducible refine q50.mono ?_); rintro e w3 ⟨rfl, ht⟩
       have C0 : Hid (CS w0 w p w3.heap.size #[.int .i64 11, .slice none 0 0, .string ⟨#[]⟩, .string ⟨#[]⟩, .slice none 0 0, .int .i64 0, .int .i64 0, .int .i64 0, .int .i64 0, .slice none 0 0, .string ⟨#[]⟩] (.slice none 0 0) [] (.slice none 0 0) [] (aft s) (w3.alloc (.cells #[.int .i64 11, .slice none 0 0, .string ⟨#[]⟩, .string ⟨#[]⟩, .slice none 0 0, .int .i64 0, .int .i64 0, .int .i64 0, .int .i64 0, .slice none 0 0, .string ⟨#[]⟩] 39))) := CS.first (k := 11) (X1.out.1.turned (X2.out.trans ht fun _ _ q => q)) (X1.out.2.1.trans (X2.out.trans ht fun _ _ q => q) fun _ _ q => q.elim) (((X2.out.trans ht fun _ _ q => q).block _ (lt_of_block X1.out.2.2) id).trans X1.out.2.2) LO.out
       clear ht q50)
    | (go_at_call 54; (with_reducible refine (N1.out _ _ _ _ _ (C0.out)).mono ?_); rintro e w4 ⟨rfl, hc⟩
       have C1 : Hid (CS w0 w p w3.heap.size #[.int .i64 11, .slice none 0 0, .string ⟨#[]⟩, .string ⟨#[]⟩, .slice none 0 0, .int .i64 0, .int .i64 0, .int .i64 0, .int .i64 0, .slice none 0 0, .string ⟨#[]⟩] (.slice none 0 0) [] (.slice none 0 0) [] r1 w4) := hc
       have k1 := cell_of hc.box 2 _ rfl; have f1 := free_of hc.box 2; have m1 := lt_of_block hc.box; clear hc)
    | (go_at_call 52; (with_reducible refine (N2.out _ _ _ _ _ ((C1.out.put 2 (.string (bs v1))))).mono ?_); rintro e w5 ⟨rfl, ht⟩))
  exact ⟨rfl, rfl, ht⟩

set_option maxRecDepth 100000 in
set_option maxHeartbeats 1000000 in
theorem cmd_11_end (w0 w : World) (p : Nat) (s : B) (h : At w0 w p s) (hk : kindIn cnames (tok s) = 11) (v1 : B) (r1 : B) (h1 : pText (aft s) = some (v1, r1)) (v2 : Int) (r2 : B) (h2 : pNum r1 = some (v2, r2)) (he : r2 = []) :
    Calls Tryz.prog 30 #[pt p] w (CmdPost w p (some { kind := 11, nums := [v2], text := v1 })) := by
  subst he
  have BG := Begin.of h hk
  have NA : Hid (∀ W, Turned (fun _ => False) w W → Calls Tryz.prog 49 #[pt p] W fun e w' => e = .returned (.string (bs (tok s))) ∧ At w0 w' p (aft s) ∧ Turned (· = p) W w') := BG.name
  have FI : Hid (∀ W bm, W.heap[bm]? = some (.map (mapEa cnames) 13) → Calls Tryz.prog 50 #[.map (some bm), .string (bs (tok s))] W fun e w' => e = .returned (.int .i64 11) ∧ Turned (fun _ => False) W w') := BG.find
  have LO : Hid (p < w.heap.size) := BG.low
  have N1 : Hid (∀ b1 cs u1 l W, CS w0 w p b1 cs u1 l (.slice none 0 0) [] (aft s) W → Calls Tryz.prog 54 #[pt p] W fun e w' =>  e = .returned (.string (bs v1)) ∧ CS w0 w p b1 cs u1 l (.slice none 0 0) [] r1 w') := fun _ _ _ _ _ c => c.txt h1
  have N2 : Hid (∀ b1 cs u1 l W, CS w0 w p b1 cs u1 l (.slice none 0 0) [] r1 W → Calls Tryz.prog 52 #[pt p] W fun e w' =>  e = .returned (.int .i64 v2) ∧ CS w0 w p b1 cs u1 l (.slice none 0 0) [] [] w') := fun _ _ _ _ _ c => c.num h2
  have M : Hid (∀ b1 cs u1 l W, CS w0 w p b1 cs u1 l (.slice none 0 0) [] [] W → Calls Tryz.prog 53 #[pt p] W fun e w' => e = .returned (.bool false) ∧ w' = W) := fun _ _ _ _ _ c => c.more_end
  clear h hk BG h1 h2
  go_enter Tryz.func30, Tryz.ntmps30
  go_upto_region 33 with (first
    | (go_at_call 49; (with_reducible refine (NA.out _ ((Turned.refl (fun _ => False) w).new _)).mono ?_); rintro e w1 ⟨rfl, ha, ht⟩
       have X1 : Hid (At w0 w1 p (aft s) ∧ Turned (· = p) w w1 ∧ w1.heap[w.heap.size]? = some (.cells zero11 39 (0, 0))) := ⟨ha, ((Turned.refl (· = p) w).new _).trans ht fun _ _ q => q, (ht.block _ (by simp) (by have := LO.out; omega)).trans (heap_alloc_new w _)⟩
       have q51 := names_any w1
       clear ha ht)
    | (go_at_call 51; (with_reducible refine q51.mono ?_); rintro e w2 ⟨rfl, hm, ht⟩
       have X2 : Hid (Turned (fun _ => False) w1 w2) := ht
       have q50 := FI.out w2 w1.heap.size hm
       clear hm ht q51)
    | (go_at_call 50; (with_reducible refine q50.mono ?_); rintro e w3 ⟨rfl, ht⟩
       have C0 : Hid (CS w0 w p w3.heap.size #[.int .i64 11, .slice none 0 0, .string ⟨#[]⟩, .string ⟨#[]⟩, .slice none 0 0, .int .i64 0, .int .i64 0, .int .i64 0, .int .i64 0, .slice none 0 0, .string ⟨#[]⟩] (.slice none 0 0) [] (.slice none 0 0) [] (aft s) (w3.alloc (.cells #[.int .i64 11, .slice none 0 0, .string ⟨#[]⟩, .string ⟨#[]⟩, .slice none 0 0, .int .i64 0, .int .i64 0, .int .i64 0, .int .i64 0, .slice none 0 0, .string ⟨#[]⟩] 39))) := CS.first (k := 11) (X1.out.1.turned (X2.out.trans ht fun _ _ q => q)) (X1.out.2.1.trans (X2.out.trans ht fun _ _ q => q) fun _ _ q => q.elim) (((X2.out.trans ht fun _ _ q => q).block _ (lt_of_block X1.out.2.2) id).trans X1.out.2.2) LO.out
       clear ht q50)
    | (go_at_call 54; (with_reducible refine (N1.out _ _ _ _ _ (C0.out)).mono ?_); rintro e w4 ⟨rfl, hc⟩
       have C1 : Hid (CS w0 w p w3.heap.size #[.int .i64 11, .slice none 0 0, .string ⟨#[]⟩, .string ⟨#[]⟩, .slice none 0 0, .int .i64 0, .int .i64 0, .int .i64 0, .int .i64 0, .slice none 0 0, .string ⟨#[]⟩] (.slice none 0 0) [] (.slice none 0 0) [] r1 w4) := hc
       have k1 := cell_of hc.box 2 _ rfl; have f1 := free_of hc.box 2; have m1 := lt_of_block hc.box; clear hc)
    | (go_at_call 52; (with_reducible refine (N2.out _ _ _ _ _ ((C1.out.put 2 (.string (bs v1))))).mono ?_); rintro e w5 ⟨rfl, hc⟩
       have C2 : Hid (CS w0 w p w3.heap.size #[.int .i64 11, .slice none 0 0, .string (bs v1), .string ⟨#[]⟩, .slice none 0 0, .int .i64 0, .int .i64 0, .int .i64 0, .int .i64 0, .slice none 0 0, .string ⟨#[]⟩] (.slice none 0 0) [] (.slice none 0 0) [] [] w5) := hc
       have k2 := cell_of hc.box 1 _ rfl; have f2 := free_of hc.box 1; have m2 := lt_of_block hc.box; clear hc k1 f1 m1)
    | (go_at_call 53; (with_reducible refine (M.out _ _ _ _ _ (C2.out.one v2)).mono ?_); rintro e w9 ⟨rfl, rfl⟩))
  refine wp_region_lit ?_
  refine wpList_load_row rfl 39 _ rfl w3.heap.size rfl 39 #[.int .i64 11, .slice (some ⟨w5.heap.size, 0, none⟩) 1 1, .string (bs v1), .string ⟨#[]⟩, .slice none 0 0, .int .i64 0, .int .i64 0, .int .i64 0, .int .i64 0, .slice none 0 0, .string ⟨#[]⟩] (0, 0) _ ((C2.out.one v2)).box Tryz.underlying39 rfl info39 ?_
  refine wpList_store_row rfl 39 _ _ rfl w.heap.size #[.int .i64 11, .slice (some ⟨w5.heap.size, 0, none⟩) 1 1, .string (bs v1), .string ⟨#[]⟩, .slice none 0 0, .int .i64 0, .int .i64 0, .int .i64 0, .int .i64 0, .slice none 0 0, .string ⟨#[]⟩] zero11 39 rfl rfl ((C2.out.one v2)).res info39 rfl (by simp [Value.oneCell']) ?_
  intro wE hE htE _
  go_wp2
  refine cmd_ret rfl hE ?_
  have F := CS.fin (c := { kind := 11, nums := [v2], text := v1 }) (C2.out.one v2) htE (Sl.nil _ _ _ _)
  exact ⟨⟨_, rfl, F.1⟩, F.2⟩

set_option maxRecDepth 100000 in
set_option maxHeartbeats 1000000 in
theorem cmd_11_on (w0 w : World) (p : Nat) (s : B) (h : At w0 w p s) (hk : kindIn cnames (tok s) = 11) (v1 : B) (r1 : B) (h1 : pText (aft s) = some (v1, r1)) (v2 : Int) (r2 : B) (h2 : pNum r1 = some (v2, r2)) (he : r2 ≠ []) :
    Calls Tryz.prog 30 #[pt p] w (CmdPost w p (none)) := by
  have BG := Begin.of h hk
  have NA : Hid (∀ W, Turned (fun _ => False) w W → Calls Tryz.prog 49 #[pt p] W fun e w' => e = .returned (.string (bs (tok s))) ∧ At w0 w' p (aft s) ∧ Turned (· = p) W w') := BG.name
  have FI : Hid (∀ W bm, W.heap[bm]? = some (.map (mapEa cnames) 13) → Calls Tryz.prog 50 #[.map (some bm), .string (bs (tok s))] W fun e w' => e = .returned (.int .i64 11) ∧ Turned (fun _ => False) W w') := BG.find
  have LO : Hid (p < w.heap.size) := BG.low
  have N1 : Hid (∀ b1 cs u1 l W, CS w0 w p b1 cs u1 l (.slice none 0 0) [] (aft s) W → Calls Tryz.prog 54 #[pt p] W fun e w' =>  e = .returned (.string (bs v1)) ∧ CS w0 w p b1 cs u1 l (.slice none 0 0) [] r1 w') := fun _ _ _ _ _ c => c.txt h1
  have N2 : Hid (∀ b1 cs u1 l W, CS w0 w p b1 cs u1 l (.slice none 0 0) [] r1 W → Calls Tryz.prog 52 #[pt p] W fun e w' =>  e = .returned (.int .i64 v2) ∧ CS w0 w p b1 cs u1 l (.slice none 0 0) [] r2 w') := fun _ _ _ _ _ c => c.num h2
  have M : Hid (∀ b1 cs u1 l W, CS w0 w p b1 cs u1 l (.slice none 0 0) [] r2 W → Calls Tryz.prog 53 #[pt p] W fun e w' => e = .returned (.bool true) ∧ w' = W) := fun _ _ _ _ _ c => c.more_on he
  clear h hk BG h1 h2 he
  go_enter Tryz.func30, Tryz.ntmps30
  go_wp2_with (first
    | (go_at_call 49; (with_reducible refine (NA.out _ ((Turned.refl (fun _ => False) w).new _)).mono ?_); rintro e w1 ⟨rfl, ha, ht⟩
       have X1 : Hid (At w0 w1 p (aft s) ∧ Turned (· = p) w w1 ∧ w1.heap[w.heap.size]? = some (.cells zero11 39 (0, 0))) := ⟨ha, ((Turned.refl (· = p) w).new _).trans ht fun _ _ q => q, (ht.block _ (by simp) (by have := LO.out; omega)).trans (heap_alloc_new w _)⟩
       have q51 := names_any w1
       clear ha ht)
    | (go_at_call 51; (with_reducible refine q51.mono ?_); rintro e w2 ⟨rfl, hm, ht⟩
       have X2 : Hid (Turned (fun _ => False) w1 w2) := ht
       have q50 := FI.out w2 w1.heap.size hm
       clear hm ht q51)
    | (go_at_call 50; (with_reducible refine q50.mono ?_); rintro e w3 ⟨rfl, ht⟩
       have C0 : Hid (CS w0 w p w3.heap.size #[.int .i64 11, .slice none 0 0, .string ⟨#[]⟩, .string ⟨#[]⟩, .slice none 0 0, .int .i64 0, .int .i64 0, .int .i64 0, .int .i64 0, .slice none 0 0, .string ⟨#[]⟩] (.slice none 0 0) [] (.slice none 0 0) [] (aft s) (w3.alloc (.cells #[.int .i64 11, .slice none 0 0, .string ⟨#[]⟩, .string ⟨#[]⟩, .slice none 0 0, .int .i64 0, .int .i64 0, .int .i64 0, .int .i64 0, .slice none 0 0, .string ⟨#[]⟩] 39))) := CS.first (k := 11) (X1.out.1.turned (X2.out.trans ht fun _ _ q => q)) (X1.out.2.1.trans (X2.out.trans ht fun _ _ q => q) fun _ _ q => q.elim) (((X2.out.trans ht fun _ _ q => q).block _ (lt_of_block X1.out.2.2) id).trans X1.out.2.2) LO.out
       clear ht q50)
    | (go_at_call 54; (with_reducible refine (N1.out _ _ _ _ _ (C0.out)).mono ?_); rintro e w4 ⟨rfl, hc⟩
       have C1 : Hid (CS w0 w p w3.heap.size #[.int .i64 11, .slice none 0 0, .string ⟨#[]⟩, .string ⟨#[]⟩, .slice none 0 0, .int .i64 0, .int .i64 0, .int .i64 0, .int .i64 0, .slice none 0 0, .string ⟨#[]⟩] (.slice none 0 0) [] (.slice none 0 0) [] r1 w4) := hc
       have k1 := cell_of hc.box 2 _ rfl; have f1 := free_of hc.box 2; have m1 := lt_of_block hc.box; clear hc)
    | (go_at_call 52; (with_reducible refine (N2.out _ _ _ _ _ ((C1.out.put 2 (.string (bs v1))))).mono ?_); rintro e w5 ⟨rfl, hc⟩
       have C2 : Hid (CS w0 w p w3.heap.size #[.int .i64 11, .slice none 0 0, .string (bs v1), .string ⟨#[]⟩, .slice none 0 0, .int .i64 0, .int .i64 0, .int .i64 0, .int .i64 0, .slice none 0 0, .string ⟨#[]⟩] (.slice none 0 0) [] (.slice none 0 0) [] r2 w5) := hc
       have k2 := cell_of hc.box 1 _ rfl; have f2 := free_of hc.box 1; have m2 := lt_of_block hc.box; clear hc k1 f1 m1)
    | (go_at_call 53; (with_reducible refine (M.out _ _ _ _ _ (C2.out.one v2)).mono ?_); rintro e w9 ⟨rfl, rfl⟩))
  exact ⟨rfl, rfl, ((C2.out.one v2)).turn⟩

set_option maxRecDepth 100000 in
set_option maxHeartbeats 1000000 in
theorem cmd_4_end (w0 w : World) (p : Nat) (s : B) (h : At w0 w p s) (hk : kindIn cnames (tok s) = 4) (he : (aft s) = []) :
    Calls Tryz.prog 30 #[pt p] w (CmdPost w p (some { kind := 4 })) := by
  have BG := Begin.of h hk
  have NA : Hid (∀ W, Turned (fun _ => False) w W → Calls Tryz.prog 49 #[pt p] W fun e w' => e = .returned (.string (bs (tok s))) ∧ At w0 w' p (aft s) ∧ Turned (· = p) W w') := BG.name
  have FI : Hid (∀ W bm, W.heap[bm]? = some (.map (mapEa cnames) 13) → Calls Tryz.prog 50 #[.map (some bm), .string (bs (tok s))] W fun e w' => e = .returned (.int .i64 4) ∧ Turned (fun _ => False) W w') := BG.find
  have LO : Hid (p < w.heap.size) := BG.low
  have M : Hid (∀ b1 cs u1 l W, CS w0 w p b1 cs u1 l (.slice none 0 0) [] (aft s) W → Calls Tryz.prog 53 #[pt p] W fun e w' => e = .returned (.bool false) ∧ w' = W) := fun _ _ _ _ _ c => by rw [he] at c; exact c.more_end
  clear h hk BG  he
  go_enter Tryz.func30, Tryz.ntmps30
  go_upto_region 33 with (first
    | (go_at_call 49; (with_reducible refine (NA.out _ ((Turned.refl (fun _ => False) w).new _)).mono ?_); rintro e w1 ⟨rfl, ha, ht⟩
       have X1 : Hid (At w0 w1 p (aft s) ∧ Turned (· = p) w w1 ∧ w1.heap[w.heap.size]? = some (.cells zero11 39 (0, 0))) := ⟨ha, ((Turned.refl (· = p) w).new _).trans ht fun _ _ q => q, (ht.block _ (by simp) (by have := LO.out; omega)).trans (heap_alloc_new w _)⟩
       have q51 := names_any w1
       clear ha ht)
    | (go_at_call 51; (with_reducible refine q51.mono ?_); rintro e w2 ⟨rfl, hm, ht⟩
       have X2 : Hid (Turned (fun _ => False) w1 w2) := ht
       have q50 := FI.out w2 w1.heap.size hm
       clear hm ht q51)
    | (go_at_call 50; (with_reducible refine q50.mono ?_); rintro e w3 ⟨rfl, ht⟩
       have C0 : Hid (CS w0 w p w3.heap.size #[.int .i64 4, .slice none 0 0, .string ⟨#[]⟩, .string ⟨#[]⟩, .slice none 0 0, .int .i64 0, .int .i64 0, .int .i64 0, .int .i64 0, .slice none 0 0, .string ⟨#[]⟩] (.slice none 0 0) [] (.slice none 0 0) [] (aft s) (w3.alloc (.cells #[.int .i64 4, .slice none 0 0, .string ⟨#[]⟩, .string ⟨#[]⟩, .slice none 0 0, .int .i64 0, .int .i64 0, .int .i64 0, .int .i64 0, .slice none 0 0, .string ⟨#[]⟩] 39))) := CS.first (k := 4) (X1.out.1.turned (X2.out.trans ht fun _ _ q => q)) (X1.out.2.1.trans (X2.out.trans ht fun _ _ q => q) fun _ _ q => q.elim) (((X2.out.trans ht fun _ _ q => q).block _ (lt_of_block X1.out.2.2) id).trans X1.out.2.2) LO.out
       clear ht q50)
    | (go_at_call 53; (with_reducible refine (M.out _ _ _ _ _ C0.out).mono ?_); rintro e w9 ⟨rfl, rfl⟩))
  refine wp_region_lit ?_
  refine wpList_load_row rfl 39 _ rfl w3.heap.size rfl 39 #[.int .i64 4, .slice none 0 0, .string ⟨#[]⟩, .string ⟨#[]⟩, .slice none 0 0, .int .i64 0, .int .i64 0, .int .i64 0, .int .i64 0, .slice none 0 0, .string ⟨#[]⟩] (0, 0) _ (C0.out).box Tryz.underlying39 rfl info39 ?_
  refine wpList_store_row rfl 39 _ _ rfl w.heap.size #[.int .i64 4, .slice none 0 0, .string ⟨#[]⟩, .string ⟨#[]⟩, .slice none 0 0, .int .i64 0, .int .i64 0, .int .i64 0, .int .i64 0, .slice none 0 0, .string ⟨#[]⟩] zero11 39 rfl rfl (C0.out).res info39 rfl (by simp [Value.oneCell']) ?_
  intro wE hE htE _
  go_wp2
  refine cmd_ret rfl hE ?_
  have F := CS.fin (c := { kind := 4 }) C0.out htE (Sl.nil _ _ _ _)
  exact ⟨⟨_, rfl, F.1⟩, F.2⟩

set_option maxRecDepth 100000 in
set_option maxHeartbeats 1000000 in
theorem cmd_4_on (w0 w : World) (p : Nat) (s : B) (h : At w0 w p s) (hk : kindIn cnames (tok s) = 4) (he : (aft s) ≠ []) :
    Calls Tryz.prog 30 #[pt p] w (CmdPost w p (none)) := by
  have BG := Begin.of h hk
  have NA : Hid (∀ W, Turned (fun _ => False) w W → Calls Tryz.prog 49 #[pt p] W fun e w' => e = .returned (.string (bs (tok s))) ∧ At w0 w' p (aft s) ∧ Turned (· = p) W w') := BG.name
  have FI : Hid (∀ W bm, W.heap[bm]? = some (.map (mapEa cnames) 13) → Calls Tryz.prog 50 #[.map (some bm), .string (bs (tok s))] W fun e w' => e = .returned (.int .i64 4) ∧ Turned (fun _ => False) W w') := BG.find
  have LO : Hid (p < w.heap.size) := BG.low
  have M : Hid (∀ b1 cs u1 l W, CS w0 w p b1 cs u1 l (.slice none 0 0) [] (aft s) W → Calls Tryz.prog 53 #[pt p] W fun e w' => e = .returned (.bool true) ∧ w' = W) := fun _ _ _ _ _ c => c.more_on he
  clear h hk BG  he
  go_enter Tryz.func30, Tryz.ntmps30
  go_wp2_with (first
    | (go_at_call 49; (with_reducible refine (NA.out _ ((Turned.refl (fun _ => False) w).new _)).mono ?_); rintro e w1 ⟨rfl, ha, ht⟩
       have X1 : Hid (At w0 w1 p (aft s) ∧ Turned (· = p) w w1 ∧ w1.heap[w.heap.size]? = some (.cells zero11 39 (0, 0))) := ⟨ha, ((Turned.refl (· = p) w).new _).trans ht fun _ _ q => q, (ht.block _ (by simp) (by have := LO.out; omega)).trans (heap_alloc_new w _)⟩
       have q51 := names_any w1
       clear ha ht)
    | (go_at_call 51; (with_reducible refine q51.mono ?_); rintro e w2 ⟨rfl, hm, ht⟩
       have X2 : Hid (Turned (fun _ => False) w1 w2) := ht
       have q50 := FI.out w2 w1.heap.size hm
       clear hm ht q51)
    | (go_at_call 50; (with_reducible refine q50.mono ?_); rintro e w3 ⟨rfl, ht⟩
       have C0 : Hid (CS w0 w p w3.heap.size #[.int .i64 4, .slice none 0 0, .string ⟨#[]⟩, .string ⟨#[]⟩, .slice none 0 0, .int .i64 0, .int .i64 0, .int .i64 0, .int .i64 0, .slice none 0 0, .string ⟨#[]⟩] (.slice none 0 0) [] (.slice none 0 0) [] (aft s) (w3.alloc (.cells #[.int .i64 4, .slice none 0 0, .string ⟨#[]⟩, .string ⟨#[]⟩, .slice none 0 0, .int .i64 0, .int .i64 0, .int .i64 0, .int .i64 0, .slice none 0 0, .string ⟨#[]⟩] 39))) := CS.first (k := 4) (X1.out.1.turned (X2.out.trans ht fun _ _ q => q)) (X1.out.2.1.trans (X2.out.trans ht fun _ _ q => q) fun _ _ q => q.elim) (((X2.out.trans ht fun _ _ q => q).block _ (lt_of_block X1.out.2.2) id).trans X1.out.2.2) LO.out
       clear ht q50)
    | (go_at_call 53; (with_reducible refine (M.out _ _ _ _ _ C0.out).mono ?_); rintro e w9 ⟨rfl, rfl⟩))
  exact ⟨rfl, rfl, (C0.out).turn⟩

set_option maxRecDepth 100000 in
set_option maxHeartbeats 1000000 in
theorem cmd_5_end (w0 w : World) (p : Nat) (s : B) (h : At w0 w p s) (hk : kindIn cnames (tok s) = 5) (he : (aft s) = []) :
    Calls Tryz.prog 30 #[pt p] w (CmdPost w p (some { kind := 5 })) := by
  have BG := Begin.of h hk
  have NA : Hid (∀ W, Turned (fun _ => False) w W → Calls Tryz.prog 49 #[pt p] W fun e w' => e = .returned (.string (bs (tok s))) ∧ At w0 w' p (aft s) ∧ Turned (· = p) W w') := BG.name
  have FI : Hid (∀ W bm, W.heap[bm]? = some (.map (mapEa cnames) 13) → Calls Tryz.prog 50 #[.map (some bm), .string (bs (tok s))] W fun e w' => e = .returned (.int .i64 5) ∧ Turned (fun _ => False) W w') := BG.find
  have LO : Hid (p < w.heap.size) := BG.low
  have M : Hid (∀ b1 cs u1 l W, CS w0 w p b1 cs u1 l (.slice none 0 0) [] (aft s) W → Calls Tryz.prog 53 #[pt p] W fun e w' => e = .returned (.bool false) ∧ w' = W) := fun _ _ _ _ _ c => by rw [he] at c; exact c.more_end
  clear h hk BG  he
  go_enter Tryz.func30, Tryz.ntmps30
  go_upto_region 33 with (first
    | (go_at_call 49; (with_reducible refine (NA.out _ ((Turned.refl (fun _ => False) w).new _)).mono ?_); rintro e w1 ⟨rfl, ha, ht⟩
       have X1 : Hid (At w0 w1 p (aft s) ∧ Turned (· = p) w w1 ∧ w1.heap[w.heap.size]? = some (.cells zero11 39 (0, 0))) := ⟨ha, ((Turned.refl (· = p) w).new _).trans ht fun _ _ q => q, (ht.block _ (by simp) (by have := LO.out; omega)).trans (heap_alloc_new w _)⟩
       have q51 := names_any w1
       clear ha ht)
    | (go_at_call 51; (with_reducible refine q51.mono ?_); rintro e w2 ⟨rfl, hm, ht⟩
       have X2 : Hid (Turned (fun _ => False) w1 w2) := ht
       have q50 := FI.out w2 w1.heap.size hm
       clear hm ht q51)
    | (go_at_call 50; (with_reducible refine q50.mono ?_); rintro e w3 ⟨rfl, ht⟩
       have C0 : Hid (CS w0 w p w3.heap.size #[.int .i64 5, .slice none 0 0, .string ⟨#[]⟩, .string ⟨#[]⟩, .slice none 0 0, .int .i64 0, .int .i64 0, .int .i64 0, .int .i64 0, .slice none 0 0, .string ⟨#[]⟩] (.slice none 0 0) [] (.slice none 0 0) [] (aft s) (w3.alloc (.cells #[.int .i64 5, .slice none 0 0, .string ⟨#[]⟩, .string ⟨#[]⟩, .slice none 0 0, .int .i64 0, .int .i64 0, .int .i64 0, .int .i64 0, .slice none 0 0, .string ⟨#[]⟩] 39))) := CS.first (k := 5) (X1.out.1.turned (X2.out.trans ht fun _ _ q => q)) (X1.out.2.1.trans (X2.out.trans ht fun _ _ q => q) fun _ _ q => q.elim) (((X2.out.trans ht fun _ _ q => q).block _ (lt_of_block X1.out.2.2) id).trans X1.out.2.2) LO.out
       clear ht q50)
    | (go_at_call 53; (with_reducible refine (M.out _ _ _ _ _ C0.out).mono ?_); rintro e w9 ⟨rfl, rfl⟩))
  refine wp_region_lit ?_
  refine wpList_load_row rfl 39 _ rfl w3.heap.size rfl 39 #[.int .i64 5, .slice none 0 0, .string ⟨#[]⟩, .string ⟨#[]⟩, .slice none 0 0, .int .i64 0, .int .i64 0, .int .i64 0, .int .i64 0, .slice none 0 0, .string ⟨#[]⟩] (0, 0) _ (C0.out).box Tryz.underlying39 rfl info39 ?_
  refine wpList_store_row rfl 39 _ _ rfl w.heap.size #[.int .i64 5, .slice none 0 0, .string ⟨#[]⟩, .string ⟨#[]⟩, .slice none 0 0, .int .i64 0, .int .i64 0, .int .i64 0, .int .i64 0, .slice none 0 0, .string ⟨#[]⟩] zero11 39 rfl rfl (C0.out).res info39 rfl (by simp [Value.oneCell']) ?_
  intro wE hE htE _
  go_wp2
  refine cmd_ret rfl hE ?_
  have F := CS.fin (c := { kind := 5 }) C0.out htE (Sl.nil _ _ _ _)
  exact ⟨⟨_, rfl, F.1⟩, F.2⟩

set_option maxRecDepth 100000 in
set_option maxHeartbeats 1000000 in
theorem cmd_5_on (w0 w : World) (p : Nat) (s : B) (h : At w0 w p s) (hk : kindIn cnames (tok s) = 5) (he : (aft s) ≠ []) :
    Calls Tryz.prog 30 #[pt p] w (CmdPost w p (none)) := by
  have BG := Begin.of h hk
  have NA : Hid (∀ W, Turned (fun _ => False) w W → Calls Tryz.prog 49 #[pt p] W fun e w' => e = .returned (.string (bs (tok s))) ∧ At w0 w' p (aft s) ∧ Turned (· = p) W w') := BG.name
  have FI : Hid (∀ W bm, W.heap[bm]? = some (.map (mapEa cnames) 13) → Calls Tryz.prog 50 #[.map (some bm), .string (bs (tok s))] W fun e w' => e = .returned (.int .i64 5) ∧ Turned (fun _ => False) W w') := BG.find
  have LO : Hid (p < w.heap.size) := BG.low
  have M : Hid (∀ b1 cs u1 l W, CS w0 w p b1 cs u1 l (.slice none 0 0) [] (aft s) W → Calls Tryz.prog 53 #[pt p] W fun e w' => e = .returned (.bool true) ∧ w' = W) := fun _ _ _ _ _ c => c.more_on he
  clear h hk BG  he
  go_enter Tryz.func30, Tryz.ntmps30
  go_wp2_with (first
    | (go_at_call 49; (with_reducible refine (NA.out _ ((Turned.refl (fun _ => False) w).new _)).mono ?_); rintro e w1 ⟨rfl, ha, ht⟩
       have X1 : Hid (At w0 w1 p (aft s) ∧ Turned (· = p) w w1 ∧ w1.heap[w.heap.size]? = some (.cells zero11 39 (0, 0))) := ⟨ha, ((Turned.refl (· = p) w).new _).trans ht fun _ _ q => q, (ht.block _ (by simp) (by have := LO.out; omega)).trans (heap_alloc_new w _)⟩
       have q51 := names_any w1
       clear ha ht)
    | (go_at_call 51; (with_reducible refine q51.mono ?_); rintro e w2 ⟨rfl, hm, ht⟩
       have X2 : Hid (Turned (fun _ => False) w1 w2) := ht
       have q50 := FI.out w2 w1.heap.size hm
       clear hm ht q51)
    | (go_at_call 50; (with_reducible refine q50.mono ?_); rintro e w3 ⟨rfl, ht⟩
       have C0 : Hid (CS w0 w p w3.heap.size #[.int .i64 5, .slice none 0 0, .string ⟨#[]⟩, .string ⟨#[]⟩, .slice none 0 0, .int .i64 0, .int .i64 0, .int .i64 0, .int .i64 0, .slice none 0 0, .string ⟨#[]⟩] (.slice none 0 0) [] (.slice none 0 0) [] (aft s) (w3.alloc (.cells #[.int .i64 5, .slice none 0 0, .string ⟨#[]⟩, .string ⟨#[]⟩, .slice none 0 0, .int .i64 0, .int .i64 0, .int .i64 0, .int .i64 0, .slice none 0 0, .string ⟨#[]⟩] 39))) := CS.first (k := 5) (X1.out.1.turned (X2.out.trans ht fun _ _ q => q)) (X1.out.2.1.trans (X2.out.trans ht fun _ _ q => q) fun _ _ q => q.elim) (((X2.out.trans ht fun _ _ q => q).block _ (lt_of_block X1.out.2.2) id).trans X1.out.2.2) LO.out
       clear ht q50)
    | (go_at_call 53; (with_reducible refine (M.out _ _ _ _ _ C0.out).mono ?_); rintro e w9 ⟨rfl, rfl⟩))
  exact ⟨rfl, rfl, (C0.out).turn⟩

set_option maxRecDepth 100000 in
set_option maxHeartbeats 1000000 in
theorem cmd_6_end (w0 w : World) (p : Nat) (s : B) (h : At w0 w p s) (hk : kindIn cnames (tok s) = 6) (he : (aft s) = []) :
    Calls Tryz.prog 30 #[pt p] w (CmdPost w p (some { kind := 6 })) := by
  have BG := Begin.of h hk
  have NA : Hid (∀ W, Turned (fun _ => False) w W → Calls Tryz.prog 49 #[pt p] W fun e w' => e = .returned (.string (bs (tok s))) ∧ At w0 w' p (aft s) ∧ Turned (· = p) W w') := BG.name
  have FI : Hid (∀ W bm, W.heap[bm]? = some (.map (mapEa cnames) 13) → Calls Tryz.prog 50 #[.map (some bm), .string (bs (tok s))] W fun e w' => e = .returned (.int .i64 6) ∧ Turned (fun _ => False) W w') := BG.find
  have LO : Hid (p < w.heap.size) := BG.low
  have M : Hid (∀ b1 cs u1 l W, CS w0 w p b1 cs u1 l (.slice none 0 0) [] (aft s) W → Calls Tryz.prog 53 #[pt p] W fun e w' => e = .returned (.bool false) ∧ w' = W) := fun _ _ _ _ _ c => by rw [he] at c; exact c.more_end
  clear h hk BG  he
  go_enter Tryz.func30, Tryz.ntmps30
  go_upto_region 33 with (first
    | (go_at_call 49; (with_reducible refine (NA.out _ ((Turned.refl (fun _ => False) w).new _)).mono ?_); rintro e w1 ⟨rfl, ha, ht⟩
       have X1 : Hid (At w0 w1 p (aft s) ∧ Turned (· = p) w w1 ∧ w1.heap[w.heap.size]? = some (.cells zero11 39 (0, 0))) := ⟨ha, ((Turned.refl (· = p) w).new _).trans ht fun _ _ q => q, (ht.block _ (by simp) (by have := LO.out; omega)).trans (heap_alloc_new w _)⟩
       have q51 := names_any w1
       clear ha ht)
    | (go_at_call 51; (with_reducible refine q51.mono ?_); rintro e w2 ⟨rfl, hm, ht⟩
       have X2 : Hid (Turned (fun _ => False) w1 w2) := ht
       have q50 := FI.out w2 w1.heap.size hm
       clear hm ht q51)
    | (go_at_call 50; (with_reducible refine q50.mono ?_); rintro e w3 ⟨rfl, ht⟩
       have C0 : Hid (CS w0 w p w3.heap.size #[.int .i64 6, .slice none 0 0, .string ⟨#[]⟩, .string ⟨#[]⟩, .slice none 0 0, .int .i64 0, .int .i64 0, .int .i64 0, .int .i64 0, .slice none 0 0, .string ⟨#[]⟩] (.slice none 0 0) [] (.slice none 0 0) [] (aft s) (w3.alloc (.cells #[.int .i64 6, .slice none 0 0, .string ⟨#[]⟩, .string ⟨#[]⟩, .slice none 0 0, .int .i64 0, .int .i64 0, .int .i64 0, .int .i64 0, .slice none 0 0, .string ⟨#[]⟩] 39))) := CS.first (k := 6) (X1.out.1.turned (X2.out.trans ht fun _ _ q => q)) (X1.out.2.1.trans (X2.out.trans ht fun _ _ q => q) fun _ _ q => q.elim) (((X2.out.trans ht fun _ _ q => q).block _ (lt_of_block X1.out.2.2) id).trans X1.out.2.2) LO.out
       clear ht q50)
    | (go_at_call 53; (with_reducible refine (M.out _ _ _ _ _ C0.out).mono ?_); rintro e w9 ⟨rfl, rfl⟩))
  refine wp_region_lit ?_
  refine wpList_load_row rfl 39 _ rfl w3.heap.size rfl 39 #[.int .i64 6, .slice none 0 0, .string ⟨#[]⟩, .string ⟨#[]⟩, .slice none 0 0, .int .i64 0, .int .i64 0, .int .i64 0, .int .i64 0, .slice none 0 0, .string ⟨#[]⟩] (0, 0) _ (C0.out).box Tryz.underlying39 rfl info39 ?_
  refine wpList_store_row rfl 39 _ _ rfl w.heap.size #[.int .i64 6, .slice none 0 0, .string ⟨#[]⟩, .string ⟨#[]⟩, .slice none 0 0, .int .i64 0, .int .i64 0, .int .i64 0, .int .i64 0, .slice none 0 0, .string ⟨#[]⟩] zero11 39 rfl rfl (C0.out).res info39 rfl (by simp [Value.oneCell']) ?_
  intro wE hE htE _
  go_wp2
  refine cmd_ret rfl hE ?_
  have F := CS.fin (c := { kind := 6 }) C0.out htE (Sl.nil _ _ _ _)
  exact ⟨⟨_, rfl, F.1⟩, F.2⟩

set_option maxRecDepth 100000 in
set_option maxHeartbeats 1000000 in
theorem cmd_6_on (w0 w : World) (p : Nat) (s : B) (h : At w0 w p s) (hk : kindIn cnames (tok s) = 6) (he : (aft s) ≠ []) :
    Calls Tryz.prog 30 #[pt p] w (CmdPost w p (none)) := by
  have BG := Begin.of h hk
  have NA : Hid (∀ W, Turned (fun _ => False) w W → Calls Tryz.prog 49 #[pt p] W fun e w' => e = .returned (.string (bs (tok s))) ∧ At w0 w' p (aft s) ∧ Turned (· = p) W w') := BG.name
  have FI : Hid (∀ W bm, W.heap[bm]? = some (.map (mapEa cnames) 13) → Calls Tryz.prog 50 #[.map (some bm), .string (bs (tok s))] W fun e w' => e = .returned (.int .i64 6) ∧ Turned (fun _ => False) W w') := BG.find
  have LO : Hid (p < w.heap.size) := BG.low
  have M : Hid (∀ b1 cs u1 l W, CS w0 w p b1 cs u1 l (.slice none 0 0) [] (aft s) W → Calls Tryz.prog 53 #[pt p] W fun e w' => e = .returned (.bool true) ∧ w' = W) := fun _ _ _ _ _ c => c.more_on he
  clear h hk BG  he
  go_enter Tryz.func30, Tryz.ntmps30
  go_wp2_with (first
    | (go_at_call 49; (with_reducible refine (NA.out _ ((Turned.refl (fun _ => False) w).new _)).mono ?_); rintro e w1 ⟨rfl, ha, ht⟩
       have X1 : Hid (At w0 w1 p (aft s) ∧ Turned (· = p) w w1 ∧ w1.heap[w.heap.size]? = some (.cells zero11 39 (0, 0))) := ⟨ha, ((Turned.refl (· = p) w).new _).trans ht fun _ _ q => q, (ht.block _ (by simp) (by have := LO.out; omega)).trans (heap_alloc_new w _)⟩
       have q51 := names_any w1
       clear ha ht)
    | (go_at_call 51; (with_reducible refine q51.mono ?_); rintro e w2 ⟨rfl, hm, ht⟩
       have X2 : Hid (Turned (fun _ => False) w1 w2) := ht
       have q50 := FI.out w2 w1.heap.size hm
       clear hm ht q51)
    | (go_at_call 50; (with_reducible refine q50.mono ?_); rintro e w3 ⟨rfl, ht⟩
       have C0 : Hid (CS w0 w p w3.heap.size #[.int .i64 6, .slice none 0 0, .string ⟨#[]⟩, .string ⟨#[]⟩, .slice none 0 0, .int .i64 0, .int .i64 0, .int .i64 0, .int .i64 0, .slice none 0 0, .string ⟨#[]⟩] (.slice none 0 0) [] (.slice none 0 0) [] (aft s) (w3.alloc (.cells #[.int .i64 6, .slice none 0 0, .string ⟨#[]⟩, .string ⟨#[]⟩, .slice none 0 0, .int .i64 0, .int .i64 0, .int .i64 0, .int .i64 0, .slice none 0 0, .string ⟨#[]⟩] 39))) := CS.first (k := 6) (X1.out.1.turned (X2.out.trans ht fun _ _ q => q)) (X1.out.2.1.trans (X2.out.trans ht fun _ _ q => q) fun _ _ q => q.elim) (((X2.out.trans ht fun _ _ q => q).block _ (lt_of_block X1.out.2.2) id).trans X1.out.2.2) LO.out
       clear ht q50)
    | (go_at_call 53; (with_reducible refine (M.out _ _ _ _ _ C0.out).mono ?_); rintro e w9 ⟨rfl, rfl⟩))
  exact ⟨rfl, rfl, (C0.out).turn⟩

set_option maxRecDepth 100000 in
set_option maxHeartbeats 1000000 in
theorem cmd_13_end (w0 w : World) (p : Nat) (s : B) (h : At w0 w p s) (hk : kindIn cnames (tok s) = 13) (he : (aft s) = []) :
    Calls Tryz.prog 30 #[pt p] w (CmdPost w p (some { kind := 13 })) := by
  have BG := Begin.of h hk
  have NA : Hid (∀ W, Turned (fun _ => False) w W → Calls Tryz.prog 49 #[pt p] W fun e w' => e = .returned (.string (bs (tok s))) ∧ At w0 w' p (aft s) ∧ Turned (· = p) W w') := BG.name
  have FI : Hid (∀ W bm, W.heap[bm]? = some (.map (mapEa cnames) 13) → Calls Tryz.prog 50 #[.map (some bm), .string (bs (tok s))] W fun e w' => e = .returned (.int .i64 13) ∧ Turned (fun _ => False) W w') := BG.find
  have LO : Hid (p < w.heap.size) := BG.low
  have M : Hid (∀ b1 cs u1 l W, CS w0 w p b1 cs u1 l (.slice none 0 0) [] (aft s) W → Calls Tryz.prog 53 #[pt p] W fun e w' => e = .returned (.bool false) ∧ w' = W) := fun _ _ _ _ _ c => by rw [he] at c; exact c.more_end
  clear h hk BG  he
  go_enter Tryz.func30, Tryz.ntmps30
  go_upto_region 33 with (first
    | (go_at_call 49; (with_reducible refine (NA.out _ ((Turned.refl (fun _ => False) w).new _)).mono ?_); rintro e w1 ⟨rfl, ha, ht⟩
       have X1 : Hid (At w0 w1 p (aft s) ∧ Turned (· = p) w w1 ∧ w1.heap[w.heap.size]? = some (.cells zero11 39 (0, 0))) := ⟨ha, ((Turned.refl (· = p) w).new _).trans ht fun _ _ q => q, (ht.block _ (by simp) (by have := LO.out; omega)).trans (heap_alloc_new w _)⟩
       have q51 := names_any w1
       clear ha ht)
    | (go_at_call 51; (with_reducible refine q51.mono ?_); rintro e w2 ⟨rfl, hm, ht⟩
       have X2 : Hid (Turned (fun _ => False) w1 w2) := ht
       have q50 := FI.out w2 w1.heap.size hm
       clear hm ht q51)
    | (go_at_call 50; (with_reducible refine q50.mono ?_); rintro e w3 ⟨rfl, ht⟩
       have C0 : Hid (CS w0 w p w3.heap.size #[.int .i64 13, .slice none 0 0, .string ⟨#[]⟩, .string ⟨#[]⟩, .slice none 0 0, .int .i64 0, .int .i64 0, .int .i64 0, .int .i64 0, .slice none 0 0, .string ⟨#[]⟩] (.slice none 0 0) [] (.slice none 0 0) [] (aft s) (w3.alloc (.cells #[.int .i64 13, .slice none 0 0, .string ⟨#[]⟩, .string ⟨#[]⟩, .slice none 0 0, .int .i64 0, .int .i64 0, .int .i64 0, .int .i64 0, .slice none 0 0, .string ⟨#[]⟩] 39))) := CS.first (k := 13) (X1.out.1.turned (X2.out.trans ht fun _ _ q => q)) (X1.out.2.1.trans (X2.out.trans ht fun _ _ q => q) fun _ _ q => q.elim) (((X2.out.trans ht fun _ _ q => q).block _ (lt_of_block X1.out.2.2) id).trans X1.out.2.2) LO.out
       clear ht q50)
    | (go_at_call 53; (with_reducible refine (M.out _ _ _ _ _ C0.out).mono ?_); rintro e w9 ⟨rfl, rfl⟩))
  refine wp_region_lit ?_
  refine wpList_load_row rfl 39 _ rfl w3.heap.size rfl 39 #[.int .i64 13, .slice none 0 0, .string ⟨#[]⟩, .string ⟨#[]⟩, .slice none 0 0, .int .i64 0, .int .i64 0, .int .i64 0, .int .i64 0, .slice none 0 0, .string ⟨#[]⟩] (0, 0) _ (C0.out).box Tryz.underlying39 rfl info39 ?_
  refine wpList_store_row rfl 39 _ _ rfl w.heap.size #[.int .i64 13, .slice none 0 0, .string ⟨#[]⟩, .string ⟨#[]⟩, .slice none 0 0, .int .i64 0, .int .i64 0, .int .i64 0, .int .i64 0, .slice none 0 0, .string ⟨#[]⟩] zero11 39 rfl rfl (C0.out).res info39 rfl (by simp [Value.oneCell']) ?_
  intro wE hE htE _
  go_wp2
  refine cmd_ret rfl hE ?_
  have F := CS.fin (c := { kind := 13 }) C0.out htE (Sl.nil _ _ _ _)
  exact ⟨⟨_, rfl, F.1⟩, F.2⟩

set_option maxRecDepth 100000 in
set_option maxHeartbeats 1000000 in
theorem cmd_13_on (w0 w : World) (p : Nat) (s : B) (h : At w0 w p s) (hk : kindIn cnames (tok s) = 13) (he : (aft s) ≠ []) :
    Calls Tryz.prog 30 #[pt p] w (CmdPost w p (none)) := by
  have BG := Begin.of h hk
  have NA : Hid (∀ W, Turned (fun _ => False) w W → Calls Tryz.prog 49 #[pt p] W fun e w' => e = .returned (.string (bs (tok s))) ∧ At w0 w' p (aft s) ∧ Turned (· = p) W w') := BG.name
  have FI : Hid (∀ W bm, W.heap[bm]? = some (.map (mapEa cnames) 13) → Calls Tryz.prog 50 #[.map (some bm), .string (bs (tok s))] W fun e w' => e = .returned (.int .i64 13) ∧ Turned (fun _ => False) W w') := BG.find
  have LO : Hid (p < w.heap.size) := BG.low
  have M : Hid (∀ b1 cs u1 l W, CS w0 w p b1 cs u1 l (.slice none 0 0) [] (aft s) W → Calls Tryz.prog 53 #[pt p] W fun e w' => e = .returned (.bool true) ∧ w' = W) := fun _ _ _ _ _ c => c.more_on he
  clear h hk BG  he
  go_enter Tryz.func30, Tryz.ntmps30
  go_wp2_with (first
    | (go_at_call 49; (with_reducible refine (NA.out _ ((Turned.refl (fun _ => False) w).new _)).mono ?_); rintro e w1 ⟨rfl, ha, ht⟩
       have X1 : Hid (At w0 w1 p (aft s) ∧ Turned (· = p) w w1 ∧ w1.heap[w.heap.size]? = some (.cells zero11 39 (0, 0))) := ⟨ha, ((Turned.refl (· = p) w).new _).trans ht fun _ _ q => q, (ht.block _ (by simp) (by have := LO.out; omega)).trans (heap_alloc_new w _)⟩
       have q51 := names_any w1
       clear ha ht)
    | (go_at_call 51; (with_reducible refine q51.mono ?_); rintro e w2 ⟨rfl, hm, ht⟩
       have X2 : Hid (Turned (fun _ => False) w1 w2) := ht
       have q50 := FI.out w2 w1.heap.size hm
       clear hm ht q51)
    | (go_at_call 50; (with_reducible refine q50.mono ?_); rintro e w3 ⟨rfl, ht⟩
       have C0 : Hid (CS w0 w p w3.heap.size #[.int .i64 13, .slice none 0 0, .string ⟨#[]⟩, .string ⟨#[]⟩, .slice none 0 0, .int .i64 0, .int .i64 0, .int .i64 0, .int .i64 0, .slice none 0 0, .string ⟨#[]⟩] (.slice none 0 0) [] (.slice none 0 0) [] (aft s) (w3.alloc (.cells #[.int .i64 13, .slice none 0 0, .string ⟨#[]⟩, .string ⟨#[]⟩, .slice none 0 0, .int .i64 0, .int .i64 0, .int .i64 0, .int .i64 0, .slice none 0 0, .string ⟨#[]⟩] 39))) := CS.first (k := 13) (X1.out.1.turned (X2.out.trans ht fun _ _ q => q)) (X1.out.2.1.trans (X2.out.trans ht fun _ _ q => q) fun _ _ q => q.elim) (((X2.out.trans ht fun _ _ q => q).block _ (lt_of_block X1.out.2.2) id).trans X1.out.2.2) LO.out
       clear ht q50)
    | (go_at_call 53; (with_reducible refine (M.out _ _ _ _ _ C0.out).mono ?_); rintro e w9 ⟨rfl, rfl⟩))
  exact ⟨rfl, rfl, (C0.out).turn⟩

set_option maxRecDepth 100000 in
set_option maxHeartbeats 1000000 in
theorem cmd_14_end (w0 w : World) (p : Nat) (s : B) (h : At w0 w p s) (hk : kindIn cnames (tok s) = 14) (he : (aft s) = []) :
    Calls Tryz.prog 30 #[pt p] w (CmdPost w p (some { kind := 14 })) := by
  have BG := Begin.of h hk
  have NA : Hid (∀ W, Turned (fun _ => False) w W → Calls Tryz.prog 49 #[pt p] W fun e w' => e = .returned (.string (bs (tok s))) ∧ At w0 w' p (aft s) ∧ Turned (· = p) W w') := BG.name
  have FI : Hid (∀ W bm, W.heap[bm]? = some (.map (mapEa cnames) 13) → Calls Tryz.prog 50 #[.map (some bm), .string (bs (tok s))] W fun e w' => e = .returned (.int .i64 14) ∧ Turned (fun _ => False) W w') := BG.find
  have LO : Hid (p < w.heap.size) := BG.low
  have M : Hid (∀ b1 cs u1 l W, CS w0 w p b1 cs u1 l (.slice none 0 0) [] (aft s) W → Calls Tryz.prog 53 #[pt p] W fun e w' => e = .returned (.bool false) ∧ w' = W) := fun _ _ _ _ _ c => by rw [he] at c; exact c.more_end
  clear h hk BG  he
  go_enter Tryz.func30, Tryz.ntmps30
  go_upto_region 33 with (first
    | (go_at_call 49; (with_reducible refine (NA.out _ ((Turned.refl (fun _ => False) w).new _)).mono ?_); rintro e w1 ⟨rfl, ha, ht⟩
       have X1 : Hid (At w0 w1 p (aft s) ∧ Turned (· = p) w w1 ∧ w1.heap[w.heap.size]? = some (.cells zero11 39 (0, 0))) := ⟨ha, ((Turned.refl (· = p) w).new _).trans ht fun _ _ q => q, (ht.block _ (by simp) (by have := LO.out; omega)).trans (heap_alloc_new w _)⟩
       have q51 := names_any w1
       clear ha ht)
    | (go_at_call 51; (with_reducible refine q51.mono ?_); rintro e w2 ⟨rfl, hm, ht⟩
       have X2 : Hid (Turned (fun _ => False) w1 w2) := ht
       have q50 := FI.out w2 w1.heap.size hm
       clear hm ht q51)
    | (go_at_call 50; (with_reducible refine q50.mono ?_); rintro e w3 ⟨rfl, ht⟩
       have C0 : Hid (CS w0 w p w3.heap.size #[.int .i64 14, .slice none 0 0, .string ⟨#[]⟩, .string ⟨#[]⟩, .slice none 0 0, .int .i64 0, .int .i64 0, .int .i64 0, .int .i64 0, .slice none 0 0, .string ⟨#[]⟩] (.slice none 0 0) [] (.slice none 0 0) [] (aft s) (w3.alloc (.cells #[.int .i64 14, .slice none 0 0, .string ⟨#[]⟩, .string ⟨#[]⟩, .slice none 0 0, .int .i64 0, .int .i64 0, .int .i64 0, .int .i64 0, .slice none 0 0, .string ⟨#[]⟩] 39))) := CS.first (k := 14) (X1.out.1.turned (X2.out.trans ht fun _ _ q => q)) (X1.out.2.1.trans (X2.out.trans ht fun _ _ q => q) fun _ _ q => q.elim) (((X2.out.trans ht fun _ _ q => q).block _ (lt_of_block X1.out.2.2) id).trans X1.out.2.2) LO.out
       clear ht q50)
    | (go_at_call 53; (with_reducible refine (M.out _ _ _ _ _ C0.out).mono ?_); rintro e w9 ⟨rfl, rfl⟩))
  refine wp_region_lit ?_
  refine wpList_load_row rfl 39 _ rfl w3.heap.size rfl 39 #[.int .i64 14, .slice none 0 0, .string ⟨#[]⟩, .string ⟨#[]⟩, .slice none 0 0, .int .i64 0, .int .i64 0, .int .i64 0, .int .i64 0, .slice none 0 0, .string ⟨#[]⟩] (0, 0) _ (C0.out).box Tryz.underlying39 rfl info39 ?_
  refine wpList_store_row rfl 39 _ _ rfl w.heap.size #[.int .i64 14, .slice none 0 0, .string ⟨#[]⟩, .string ⟨#[]⟩, .slice none 0 0, .int .i64 0, .int .i64 0, .int .i64 0, .int .i64 0, .slice none 0 0, .string ⟨#[]⟩] zero11 39 rfl rfl (C0.out).res info39 rfl (by simp [Value.oneCell']) ?_
  intro wE hE htE _
  go_wp2
  refine cmd_ret rfl hE ?_
  have F := CS.fin (c := { kind := 14 }) C0.out htE (Sl.nil _ _ _ _)
  exact ⟨⟨_, rfl, F.1⟩, F.2⟩

set_option maxRecDepth 100000 in
set_option maxHeartbeats 1000000 in
theorem cmd_14_on (w0 w : World) (p : Nat) (s : B) (h : At w0 w p s) (hk : kindIn cnames (tok s) = 14) (he : (aft s) ≠ []) :
    Calls Tryz.prog 30 #[pt p] w (CmdPost w p (none)) := by
  have BG := Begin.of h hk
  have NA : Hid (∀ W, Turned (fun _ => False) w W → Calls Tryz.prog 49 #[pt p] W fun e w' => e = .returned (.string (bs (tok s))) ∧ At w0 w' p (aft s) ∧ Turned (· = p) W w') := BG.name
  have FI : Hid (∀ W bm, W.heap[bm]? = some (.map (mapEa cnames) 13) → Calls Tryz.prog 50 #[.map (some bm), .string (bs (tok s))] W fun e w' => e = .returned (.int .i64 14) ∧ Turned (fun _ => False) W w') := BG.find
  have LO : Hid (p < w.heap.size) := BG.low
  have M : Hid (∀ b1 cs u1 l W, CS w0 w p b1 cs u1 l (.slice none 0 0) [] (aft s) W → Calls Tryz.prog 53 #[pt p] W fun e w' => e = .returned (.bool true) ∧ w' = W) := fun _ _ _ _ _ c => c.more_on he
  clear h hk BG  he
  go_enter Tryz.func30, Tryz.ntmps30
  go_wp2_with (first
    | (go_at_call 49; (with_reducible refine (NA.out _ ((Turned.refl (fun _ => False) w).new _)).mono ?_); rintro e w1 ⟨rfl, ha, ht⟩
       have X1 : Hid (At w0 w1 p (aft s) ∧ Turned (· = p) w w1 ∧ w1.heap[w.heap.size]? = some (.cells zero11 39 (0, 0))) := ⟨ha, ((Turned.refl (· = p) w).new _).trans ht fun _ _ q => q, (ht.block _ (by simp) (by have := LO.out; omega)).trans (heap_alloc_new w _)⟩
       have q51 := names_any w1
       clear ha ht)
    | (go_at_call 51; (with_reducible refine q51.mono ?_); rintro e w2 ⟨rfl, hm, ht⟩
       have X2 : Hid (Turned (fun _ => False) w1 w2) := ht
       have q50 := FI.out w2 w1.heap.size hm
       clear hm ht q51)
    | (go_at_call 50; (with_reducible refine q50.mono ?_); rintro e w3 ⟨rfl, ht⟩
       have C0 : Hid (CS w0 w p w3.heap.size #[.int .i64 14, .slice none 0 0, .string ⟨#[]⟩, .string ⟨#[]⟩, .slice none 0 0, .int .i64 0, .int .i64 0, .int .i64 0, .int .i64 0, .slice none 0 0, .string ⟨#[]⟩] (.slice none 0 0) [] (.slice none 0 0) [] (aft s) (w3.alloc (.cells #[.int .i64 14, .slice none 0 0, .string ⟨#[]⟩, .string ⟨#[]⟩, .slice none 0 0, .int .i64 0, .int .i64 0, .int .i64 0, .int .i64 0, .slice none 0 0, .string ⟨#[]⟩] 39))) := CS.first (k := 14) (X1.out.1.turned (X2.out.trans ht fun _ _ q => q)) (X1.out.2.1.trans (X2.out.trans ht fun _ _ q => q) fun _ _ q => q.elim) (((X2.out.trans ht fun _ _ q => q).block _ (lt_of_block X1.out.2.2) id).trans X1.out.2.2) LO.out
       clear ht q50)
    | (go_at_call 53; (with_reducible refine (M.out _ _ _ _ _ C0.out).mono ?_); rintro e w9 ⟨rfl, rfl⟩))
  exact ⟨rfl, rfl, (C0.out).turn⟩

end Go.Proofs.YteblabpplaaddaaGreatDoor
