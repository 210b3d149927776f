/- A line's command: the walk of command: six numbers, entries (printed by gen_cq.py). -/
import Derived.Test.YteblabpplaaddaaGreatDoorCo
import Derived.Deep.LoopGhost
set_option linter.unusedVariables false
set_option linter.unusedSimpArgs false
namespace Go.Proofs.YteblabpplaaddaaGreatDoor
open Go.RowKit Go.Mine Go.Mine.Sc

/-- what six numbers make of a command -/
def oneOf : Option (List Int × B) → Option Cmd
  | none => none
  | some (l, r) => if 0 ≤ l.getD 4 0 ∧ l.getD 4 0 < 4294967296 then (if r = [] then some { kind := 1, nums := l } else none) else none

/-- the loop of six numbers: g are left -/
def OneR (w0 w : World) (p b1 : Nat) (s : B) (g : Nat) (i : Value) (wr : World) : Prop :=
  ∃ (pre : List Int) (a : Option Addr) (cap : Nat) (r : B), pre.length + g = 6 ∧ i = .int .i64 (pre.length : Nat) ∧ pMany 6 (aft s) = (pMany g r).map (fun q => (pre ++ q.1, q.2)) ∧
    CS w0 w p b1 #[.int .i64 1, .slice a pre.length cap, .string ⟨#[]⟩, .string ⟨#[]⟩, .slice none 0 0, .int .i64 0, .int .i64 0, .int .i64 0, .int .i64 0, .slice none 0 0, .string ⟨#[]⟩] (.slice a pre.length cap) pre (.slice none 0 0) [] r wr

theorem six_of (l : List Int) (h : l.length = 6) : ∃ n0 n1 n2 n3 n4 n5, l = [n0, n1, n2, n3, n4, n5] := by
  match l, h with
  | [n0, n1, n2, n3, n4, n5], _ => exact ⟨n0, n1, n2, n3, n4, n5, rfl⟩
theorem OneR.start {w0 w : World} {p b1 : Nat} {s : B} {W : World} (h : CS w0 w p b1 #[.int .i64 1, .slice none 0 0, .string ⟨#[]⟩, .string ⟨#[]⟩, .slice none 0 0, .int .i64 0, .int .i64 0, .int .i64 0, .int .i64 0, .slice none 0 0, .string ⟨#[]⟩] (.slice none 0 0) [] (.slice none 0 0) [] (aft s) W) : OneR w0 w p b1 s 6 (.int .i64 0) W :=
  ⟨[], none, 0, aft s, rfl, rfl, by cases pMany 6 (aft s) <;> simp, h⟩

set_option maxRecDepth 100000 in
set_option maxHeartbeats 4000000 in
theorem cmd_1 (w0 w : World) (p : Nat) (s : B) (h : At w0 w p s) (hk : kindIn cnames (tok s) = 1) :
    Calls Tryz.prog 30 #[pt p] w (CmdPost w p (oneOf (pMany 6 (aft s)))) := by
  have BG := Begin.of h hk
  have NA : Hid (∀ W, Turned (fun _ => False) w W → Calls Tryz.prog 49 #[pt p] W fun e w' => e = .returned (.string (bs (tok s))) ∧ At w0 w' p (aft s) ∧ Turned (· = p) W w') := BG.name
  have FI : Hid (∀ W bm, W.heap[bm]? = some (.map (mapEa cnames) 13) → Calls Tryz.prog 50 #[.map (some bm), .string (bs (tok s))] W fun e w' => e = .returned (.int .i64 1) ∧ Turned (fun _ => False) W w') := BG.find
  have LO : Hid (p < w.heap.size) := BG.low
  have M : Hid (∀ b1 cs u1 l r W, CS w0 w p b1 cs u1 l (.slice none 0 0) [] r W → Calls Tryz.prog 53 #[pt p] W fun e w' => e = .returned (.bool (decide (r ≠ []))) ∧ w' = W) := fun _ _ _ _ _ _ c => c.more
  clear h hk BG
  go_enter Tryz.func30, Tryz.ntmps30
  go_wp2_with (first
    | (go_at_call 49; (with_reducible refine (NA.out _ ((Turned.refl (fun _ => False) w).new _)).mono ?_); rintro e w1 ⟨rfl, ha, ht⟩
       have X1 : Hid (At w0 w1 p (aft s) ∧ Turned (· = p) w w1 ∧ w1.heap[w.heap.size]? = some (.cells zero11 39 (0, 0))) := ⟨ha, ((Turned.refl (· = p) w).new _).trans ht fun _ _ q => q, (ht.block _ (by simp) (by have := LO.out; omega)).trans (heap_alloc_new w _)⟩
       have q51 := names_any w1
       clear ha ht)
    | (go_at_call 51; (with_reducible refine q51.mono ?_); rintro e w2 ⟨rfl, hm, ht⟩
       have X2 : Hid (Turned (fun _ => False) w1 w2) := ht
       have q50 := FI.out w2 w1.heap.size hm
       clear hm ht q51)
    | (go_at_call 50; (with_reducible refine q50.mono ?_); rintro e w3 ⟨rfl, ht⟩
       have C0 : Hid (CS w0 w p w3.heap.size #[.int .i64 1, .slice none 0 0, .string ⟨#[]⟩, .string ⟨#[]⟩, .slice none 0 0, .int .i64 0, .int .i64 0, .int .i64 0, .int .i64 0, .slice none 0 0, .string ⟨#[]⟩] (.slice none 0 0) [] (.slice none 0 0) [] (aft s) (w3.alloc (.cells #[.int .i64 1, .slice none 0 0, .string ⟨#[]⟩, .string ⟨#[]⟩, .slice none 0 0, .int .i64 0, .int .i64 0, .int .i64 0, .int .i64 0, .slice none 0 0, .string ⟨#[]⟩] 39))) := CS.first (k := 1) (X1.out.1.turned (X2.out.trans ht fun _ _ q => q)) (X1.out.2.1.trans (X2.out.trans ht fun _ _ q => q) fun _ _ q => q.elim) (((X2.out.trans ht fun _ _ q => q).block _ (lt_of_block X1.out.2.2) id).trans X1.out.2.2) LO.out
       clear ht q50))
  have HB : Hid (w3.heap.size = w3.heap.size) := rfl
  have B0 : Hid (OneR w0 w p w3.heap.size s 6 (.int .i64 0) (w3.alloc (.cells #[.int .i64 1, .slice none 0 0, .string ⟨#[]⟩, .string ⟨#[]⟩, .slice none 0 0, .int .i64 0, .int .i64 0, .int .i64 0, .int .i64 0, .slice none 0 0, .string ⟨#[]⟩] 39))) := OneR.start C0.out
  go_loopg [16] 6 (fun g i wr => OneR w0 w p w3.heap.size s g i wr)
  case atStart => exact B0.out
  case round =>
    obtain ⟨pre, a, cap, r, hg, rfl, hpm, hc⟩ := hrel
    have G : Hid (pre.length + gk = 6) := hg
    have PM : Hid (pMany 6 (aft s) = (pMany gk r).map (fun q => (pre ++ q.1, q.2))) := hpm
    have C : Hid (CS w0 w p w3.heap.size #[.int .i64 1, .slice a pre.length cap, .string ⟨#[]⟩, .string ⟨#[]⟩, .slice none 0 0, .int .i64 0, .int .i64 0, .int .i64 0, .int .i64 0, .slice none 0 0, .string ⟨#[]⟩] (.slice a pre.length cap) pre (.slice none 0 0) [] r wr) := hc
    have k1 := cell_of hc.box 1 _ rfl; have f1 := free_of hc.box 1; have m1 := lt_of_block hc.box
    clear hg hpm hc B0 C0
    by_cases hlt : pre.length < 6
    · have hd : decide ((pre.length : Int) < 6) = true := by simp; omega
      obtain ⟨g', hg'⟩ : ∃ g', gk = g' + 1 := ⟨gk - 1, by have := G.out; omega⟩
      have hw1 : wrap64 ((pre.length : Int) + 1) = ((pre.length + 1 : Nat) : Int) := by simp [wrap64]; omega
      have HL : Hid (pre.length < 6 ∧ gk = g' + 1) := ⟨hlt, hg'⟩
      have V0 : CS w0 w p w3.heap.size #[.int .i64 1, .slice a pre.length cap, .string ⟨#[]⟩, .string ⟨#[]⟩, .slice none 0 0, .int .i64 0, .int .i64 0, .int .i64 0, .int .i64 0, .slice none 0 0, .string ⟨#[]⟩] (.slice a pre.length cap) pre (.slice none 0 0) [] r wr.drew := C.out.same (Turned.drew _ _)
      have CD : Hid (CS w0 w p w3.heap.size #[.int .i64 1, .slice a pre.length cap, .string ⟨#[]⟩, .string ⟨#[]⟩, .slice none 0 0, .int .i64 0, .int .i64 0, .int .i64 0, .int .i64 0, .slice none 0 0, .string ⟨#[]⟩] (.slice a pre.length cap) pre (.slice none 0 0) [] r wr.drew) := V0
      have c6 : Hid (pre.length + 1 ≤ maxLen ∧ (pre.length + 1) * 8 ≤ 140737488355328) := (by simp only [maxLen]; omega : pre.length + 1 ≤ maxLen ∧ (pre.length + 1) * 8 ≤ 140737488355328)
      clear hlt hg' V0
      cases hq : pNum r with
      | none =>
        have hn := CD.out.num_no hq
        have HN : Hid (pMany 6 (aft s) = none) := by
          have : pMany 6 (aft s) = none := by rw [PM.out, HL.out.2, pMany, hq]; rfl
          exact this
        clear hq
        go_wp2
        refine wp_region_any (by kernel_rfl) ?_
        change wpAny _ _ _ _ _ _ _ (World.drew _)
        refine wpAny_take (i := 0) (v := .pointer (some ⟨w3.heap.size, 1, none⟩)) rfl (by kernel_rfl) (by kernel_rfl) (by kernel_rfl) (fun _ _ _ h => h) (Or.inl ⟨by rfl, fun w => by go_simp⟩) ?_
        refine wpAny_take (i := 2) (v := pt p) rfl (by kernel_rfl) (by kernel_rfl) (by kernel_rfl) (fun _ _ _ h => h) (Or.inl ⟨by rfl, fun w => by go_simp⟩) ?_
        refine wpAny_ready (rs := [1, 3]) (by kernel_rfl) (by simp) ?_
        refine AllReady.cons rfl (fun K hK => ?_) (AllReady.cons rfl (fun K hK => ?_) AllReady.nil)
        · go_simp
          refine hK _ _ ?_
          refine wpAny_ready (rs := [3]) (by kernel_rfl) (by simp) ?_
          refine AllReady.cons rfl (fun K hK => ?_) AllReady.nil
          go_simp
          (with_reducible refine hn.mono ?_)
          rintro e w4 ⟨rfl, ht⟩
          rw [HN.out]
          exact ⟨rfl, rfl, ht⟩
        · go_simp
          (with_reducible refine hn.mono ?_)
          rintro e w4 ⟨rfl, ht⟩
          rw [HN.out]
          exact ⟨rfl, rfl, ht⟩
      | some q =>
        obtain ⟨n, r2⟩ := q
        have hn := CD.out.num hq
        have GO : Hid (pMany 6 (aft s) = (pMany g' r2).map (fun q => (pre ++ [n] ++ q.1, q.2))) := by
          have : pMany 6 (aft s) = (pMany g' r2).map (fun q => (pre ++ [n] ++ q.1, q.2)) := by
            rw [PM.out, HL.out.2, pMany, hq]
            show ((pMany g' r2).map fun p => (n :: p.1, p.2)).map _ = _
            cases pMany g' r2 with
            | none => rfl
            | some q => simp
          exact this
        clear hq
        go_wp2
        go_region_law (first
            | (go_simp; go_at_call 52; (with_reducible refine hn.mono ?_); rintro e w4 ⟨rfl, hc⟩
               have C4 : Hid (CS w0 w p w3.heap.size #[.int .i64 1, .slice a pre.length cap, .string ⟨#[]⟩, .string ⟨#[]⟩, .slice none 0 0, .int .i64 0, .int .i64 0, .int .i64 0, .int .i64 0, .slice none 0 0, .string ⟨#[]⟩] (.slice a pre.length cap) pre (.slice none 0 0) [] r2 w4) := hc
               have k4 := cell_of hc.box 1 _ rfl; have f4 := free_of hc.box 1; have m4 := lt_of_block hc.box; clear hc)
            | ((refine step_append (by rfl) _ _ 34 34 (by rfl) (C4.out.new (.cells #[.int .i64 n] 3)).nums Tryz.underlying34 info3 rfl (by decide) (by rfl) (.slice (some ⟨w4.heap.size, 0, none⟩) 1 1) (by rfl) (src_one Tryz.underlying34 (.int .i64 n) rfl w4) c6.out.1 c6.out.2 ?_
                intro x5 w5 q5 t5
                obtain ⟨a5, cap5, hv5, -, -⟩ := q5.value
                subst hv5
                have C5 : Hid (CS w0 w p w3.heap.size #[.int .i64 1, .slice a pre.length cap, .string ⟨#[]⟩, .string ⟨#[]⟩, .slice none 0 0, .int .i64 0, .int .i64 0, .int .i64 0, .int .i64 0, .slice none 0 0, .string ⟨#[]⟩] (.slice a5 (pre ++ [n]).length cap5) (pre ++ [n]) (.slice none 0 0) [] r2 w5) := (C4.out.new (.cells #[.int .i64 n] 3)).app t5 (by
                  have hb := lt_of_block C4.out.box
                  have hi := C4.out.hi
                  have hsz : (w4.alloc (.cells #[.int .i64 n] 3)).heap.size = w4.heap.size + 1 := by simp
                  rw [icells_app, List.length_append]
                  exact q5.widen fun b q => q.elim id fun q => by omega) (Sl.nil _ _ _ _)
                have k5 := cell_of C5.out.box 1 _ rfl; have f5 := free_of C5.out.box 1; have m5 := lt_of_block C5.out.box
                clear q5 t5)))
        all_goals
          go_wp2
          go_roundg g'
          case measure => have := HL.out.2; omega
          case rel =>
            exact ⟨pre ++ [n], a5, cap5, r2, by have := G.out; have := HL.out.2; simp; omega, by simp [hw1], GO.out, by simpa using C5.out.put 1 (.slice a5 (pre.length + 1) cap5)⟩
    · obtain ⟨n0, n1, n2, n3, n4, n5, hpre⟩ := six_of pre (by have := G.out; omega)
      subst hpre
      have hgk : gk = 0 := by have := G.out; simp at this; omega
      subst hgk
      have HQ : Hid (pMany 6 (aft s) = some ([n0, n1, n2, n3, n4, n5], r)) := (by
        have : pMany 6 (aft s) = some ([n0, n1, n2, n3, n4, n5], r) := by rw [PM.out]; simp [pMany]
        exact this)
      obtain ⟨g, off, cap', hv, -, -, -, hcs, -, -⟩ := C.out.nums.opens (by simp)
      injection hv with hv1 hv2 hv3
      subst hv1
      subst hv3
      have k4 : wr.cell? ⟨g, off + 4, none⟩ = some (.int .i64 n4) := hcs 4 (by simp)
      have C6 : Hid (CS w0 w p w3.heap.size #[.int .i64 1, .slice (some ⟨g, off, none⟩) 6 cap, .string ⟨#[]⟩, .string ⟨#[]⟩, .slice none 0 0, .int .i64 0, .int .i64 0, .int .i64 0, .int .i64 0, .slice none 0 0, .string ⟨#[]⟩] (.slice (some ⟨g, off, none⟩) 6 cap) [n0, n1, n2, n3, n4, n5] (.slice none 0 0) [] r wr) := C.out
      have k1' : wr.cell? ⟨w3.heap.size, 1, none⟩ = some (.slice (some ⟨g, off, none⟩) 6 cap) := k1
      clear hcs hlt G PM C k1
      by_cases h0 : n4 < 0
      · have d0 : decide (n4 < 0) = true := by simp; omega
        have HN : Hid (oneOf (pMany 6 (aft s)) = none) := (by
          have : oneOf (pMany 6 (aft s)) = none := by rw [HQ.out]; simp [oneOf]; omega
          exact this)
        clear h0
        go_wp2
        rw [HN.out]
        exact ⟨rfl, rfl, C6.out.turn⟩
      have d0 : decide (n4 < 0) = false := by simp; omega
      by_cases h1 : 4294967296 ≤ n4
      · have d1 : decide ((4294967296 : Int) ≤ n4) = true := by simp; omega
        have HN : Hid (oneOf (pMany 6 (aft s)) = none) := (by
          have : oneOf (pMany 6 (aft s)) = none := by rw [HQ.out]; simp [oneOf]; omega
          exact this)
        clear h0 h1
        go_wp2
        rw [HN.out]
        exact ⟨rfl, rfl, C6.out.turn⟩
      have d1 : decide ((4294967296 : Int) ≤ n4) = false := by simp; omega
      have hM := M.out _ _ _ _ _ _ C6.out
      by_cases hr : r = []
      · subst hr
        have HN : Hid (oneOf (pMany 6 (aft s)) = some { kind := 1, nums := [n0, n1, n2, n3, n4, n5] }) := (by
          have : oneOf (pMany 6 (aft s)) = some { kind := 1, nums := [n0, n1, n2, n3, n4, n5] } := by rw [HQ.out]; simp [oneOf]; omega
          exact this)
        have hM : Calls Tryz.prog 53 #[pt p] wr fun e w' => e = .returned (.bool false) ∧ w' = wr := hM
        clear h0 h1
        go_upto_region 33 with (go_at_call 53; (with_reducible refine hM.mono ?_); rintro e w9 ⟨rfl, rfl⟩)
        refine wp_region_lit ?_
        refine wpList_load_row rfl 39 _ rfl w3.heap.size rfl 39 #[.int .i64 1, .slice (some ⟨g, off, none⟩) 6 cap, .string ⟨#[]⟩, .string ⟨#[]⟩, .slice none 0 0, .int .i64 0, .int .i64 0, .int .i64 0, .int .i64 0, .slice none 0 0, .string ⟨#[]⟩] (0, 0) _ (C6.out).box Tryz.underlying39 rfl info39 ?_
        refine wpList_store_row rfl 39 _ _ rfl w.heap.size #[.int .i64 1, .slice (some ⟨g, off, none⟩) 6 cap, .string ⟨#[]⟩, .string ⟨#[]⟩, .slice none 0 0, .int .i64 0, .int .i64 0, .int .i64 0, .int .i64 0, .slice none 0 0, .string ⟨#[]⟩] zero11 39 rfl rfl (C6.out).res info39 rfl (by simp [Value.oneCell']) ?_
        intro wE hE htE _
        go_wp2
        refine cmd_ret rfl hE ?_
        have F := CS.fin (c := { kind := 1, nums := [n0, n1, n2, n3, n4, n5] }) (C6.out) htE (Sl.nil _ _ _ _)
        rw [HN.out]
        exact ⟨⟨_, rfl, F.1⟩, F.2⟩
      · rw [decide_eq_true hr] at hM
        have HN : Hid (oneOf (pMany 6 (aft s)) = none) := (by
          have : oneOf (pMany 6 (aft s)) = none := by rw [HQ.out]; simp [oneOf, hr]
          exact this)
        clear h0 h1 hr
        go_wp2_with (go_at_call 53; (with_reducible refine hM.mono ?_); rintro e w9 ⟨rfl, rfl⟩)
        rw [HN.out]
        exact ⟨rfl, rfl, C6.out.turn⟩

/-- the loop of entries -/
def TreeR (w0 w : World) (p b1 : Nat) (s : B) (g : Nat) (wr : World) : Prop :=
  ∃ (pre : List (B × Int)) (a : Option Addr) (cap : Nat) (r : B), r.length = g ∧ pre.length + r.length ≤ s.length ∧ pTree (aft s) = (pTree r).map (pre ++ ·) ∧
    CS w0 w p b1 #[.int .i64 2, .slice none 0 0, .string ⟨#[]⟩, .string ⟨#[]⟩, .slice a pre.length cap, .int .i64 0, .int .i64 0, .int .i64 0, .int .i64 0, .slice none 0 0, .string ⟨#[]⟩] (.slice none 0 0) [] (.slice a pre.length cap) pre r wr
theorem TreeR.start {w0 w : World} {p b1 : Nat} {s : B} {W : World} (h : CS w0 w p b1 #[.int .i64 2, .slice none 0 0, .string ⟨#[]⟩, .string ⟨#[]⟩, .slice none 0 0, .int .i64 0, .int .i64 0, .int .i64 0, .int .i64 0, .slice none 0 0, .string ⟨#[]⟩] (.slice none 0 0) [] (.slice none 0 0) [] (aft s) W) : TreeR w0 w p b1 s (aft s).length W :=
  ⟨[], none, 0, aft s, rfl, by have := aft_le s; simp; omega, by cases pTree (aft s) <;> simp, h⟩
/-- what entries make of a command -/
def treeCmd : Option (List (B × Int)) → Option Cmd
  | none => none
  | some l => some { kind := 2, tree := l }

set_option maxRecDepth 100000 in
set_option maxHeartbeats 4000000 in
theorem cmd_2 (w0 w : World) (p : Nat) (s : B) (h : At w0 w p s) (hk : kindIn cnames (tok s) = 2) :
    Calls Tryz.prog 30 #[pt p] w (CmdPost w p (treeCmd (pTree (aft s)))) := by
  have HLN : Hid (s.length ≤ 1000000) := h.len
  have BG := Begin.of h hk
  have NA : Hid (∀ W, Turned (fun _ => False) w W → Calls Tryz.prog 49 #[pt p] W fun e w' => e = .returned (.string (bs (tok s))) ∧ At w0 w' p (aft s) ∧ Turned (· = p) W w') := BG.name
  have FI : Hid (∀ W bm, W.heap[bm]? = some (.map (mapEa cnames) 13) → Calls Tryz.prog 50 #[.map (some bm), .string (bs (tok s))] W fun e w' => e = .returned (.int .i64 2) ∧ Turned (fun _ => False) W w') := BG.find
  have LO : Hid (p < w.heap.size) := BG.low
  clear h hk BG
  go_enter Tryz.func30, Tryz.ntmps30
  go_wp2_with (first
    | (go_at_call 49; (with_reducible refine (NA.out _ ((Turned.refl (fun _ => False) w).new _)).mono ?_); rintro e w1 ⟨rfl, ha, ht⟩
       have X1 : Hid (At w0 w1 p (aft s) ∧ Turned (· = p) w w1 ∧ w1.heap[w.heap.size]? = some (.cells zero11 39 (0, 0))) := ⟨ha, ((Turned.refl (· = p) w).new _).trans ht fun _ _ q => q, (ht.block _ (by simp) (by have := LO.out; omega)).trans (heap_alloc_new w _)⟩
       have q51 := names_any w1
       clear ha ht)
    | (go_at_call 51; (with_reducible refine q51.mono ?_); rintro e w2 ⟨rfl, hm, ht⟩
       have X2 : Hid (Turned (fun _ => False) w1 w2) := ht
       have q50 := FI.out w2 w1.heap.size hm
       clear hm ht q51)
    | (go_at_call 50; (with_reducible refine q50.mono ?_); rintro e w3 ⟨rfl, ht⟩
       have C0 : Hid (CS w0 w p w3.heap.size #[.int .i64 2, .slice none 0 0, .string ⟨#[]⟩, .string ⟨#[]⟩, .slice none 0 0, .int .i64 0, .int .i64 0, .int .i64 0, .int .i64 0, .slice none 0 0, .string ⟨#[]⟩] (.slice none 0 0) [] (.slice none 0 0) [] (aft s) (w3.alloc (.cells #[.int .i64 2, .slice none 0 0, .string ⟨#[]⟩, .string ⟨#[]⟩, .slice none 0 0, .int .i64 0, .int .i64 0, .int .i64 0, .int .i64 0, .slice none 0 0, .string ⟨#[]⟩] 39))) := CS.first (k := 2) (X1.out.1.turned (X2.out.trans ht fun _ _ q => q)) (X1.out.2.1.trans (X2.out.trans ht fun _ _ q => q) fun _ _ q => q.elim) (((X2.out.trans ht fun _ _ q => q).block _ (lt_of_block X1.out.2.2) id).trans X1.out.2.2) LO.out
       clear ht q50))
  have B0 : Hid (TreeR w0 w p w3.heap.size s (aft s).length (w3.alloc (.cells #[.int .i64 2, .slice none 0 0, .string ⟨#[]⟩, .string ⟨#[]⟩, .slice none 0 0, .int .i64 0, .int .i64 0, .int .i64 0, .int .i64 0, .slice none 0 0, .string ⟨#[]⟩] 39))) := TreeR.start C0.out
  go_loopg [] (aft s).length (fun g wr => TreeR w0 w p w3.heap.size s g wr)
  case atStart => exact B0.out
  case round =>
    obtain ⟨pre, a, cap, r, hg, hlen, hpt, hc⟩ := hrel
    have G : Hid (r.length = gk ∧ pre.length + r.length ≤ s.length) := ⟨hg, hlen⟩
    have PT : Hid (pTree (aft s) = (pTree r).map (pre ++ ·)) := hpt
    have C : Hid (CS w0 w p w3.heap.size #[.int .i64 2, .slice none 0 0, .string ⟨#[]⟩, .string ⟨#[]⟩, .slice a pre.length cap, .int .i64 0, .int .i64 0, .int .i64 0, .int .i64 0, .slice none 0 0, .string ⟨#[]⟩] (.slice none 0 0) [] (.slice a pre.length cap) pre r wr) := hc
    clear hg hlen hpt hc B0 C0
    have hM := C.out.more
    by_cases hr : r = []
    · subst hr
      have HN : Hid (treeCmd (pTree (aft s)) = some { kind := 2, tree := pre }) := (by
        have : treeCmd (pTree (aft s)) = some { kind := 2, tree := pre } := by rw [PT.out, pTree_nil]; simp [treeCmd]
        exact this)
      have hM : Calls Tryz.prog 53 #[pt p] wr fun e w' => e = .returned (.bool false) ∧ w' = wr := hM
      go_upto_region 33 with (go_at_call 53; (with_reducible refine hM.mono ?_); rintro e w9 ⟨rfl, rfl⟩)
      refine wp_region_lit ?_
      refine wpList_load_row rfl 39 _ rfl w3.heap.size rfl 39 #[.int .i64 2, .slice none 0 0, .string ⟨#[]⟩, .string ⟨#[]⟩, .slice a pre.length cap, .int .i64 0, .int .i64 0, .int .i64 0, .int .i64 0, .slice none 0 0, .string ⟨#[]⟩] (0, 0) _ (C.out).box Tryz.underlying39 rfl info39 ?_
      refine wpList_store_row rfl 39 _ _ rfl w.heap.size #[.int .i64 2, .slice none 0 0, .string ⟨#[]⟩, .string ⟨#[]⟩, .slice a pre.length cap, .int .i64 0, .int .i64 0, .int .i64 0, .int .i64 0, .slice none 0 0, .string ⟨#[]⟩] zero11 39 rfl rfl (C.out).res info39 rfl (by simp [Value.oneCell']) ?_
      intro wE hE htE _
      go_wp2
      refine cmd_ret rfl hE ?_
      have F := CS.fin (c := { kind := 2, tree := pre }) (C.out) htE (Sl.nil _ _ _ _)
      rw [HN.out]
      exact ⟨⟨_, rfl, F.1⟩, F.2⟩
    · rw [decide_eq_true hr] at hM
      have HR : Hid (r ≠ []) := hr
      clear hr
      cases hq : pText r with
      | none =>
        have hn := C.out.txt_no hq
        have HN : Hid (pTree (aft s) = none) := (by
          have : pTree (aft s) = none := by rw [PT.out, pTree_text HR.out hq]; rfl
          exact this)
        clear hq
        go_wp2_with (first
          | (go_at_call 53; (with_reducible refine hM.mono ?_); rintro e w9 ⟨rfl, rfl⟩; clear hM)
          | (go_at_call 54; (with_reducible refine hn.mono ?_); rintro e w4 ⟨rfl, ht⟩))
        rw [HN.out]
        exact ⟨rfl, rfl, ht⟩
      | some q =>
        obtain ⟨x, r1⟩ := q
        have hn := C.out.txt hq
        cases hq2 : pSmall r1 with
        | none =>
          have HN : Hid (pTree (aft s) = none) := (by
            have : pTree (aft s) = none := by rw [PT.out, pTree_small hq hq2]; rfl
            exact this)
          have HS : Hid (pSmall r1 = none) := hq2
          clear hq hq2
          go_wp2_with (first
            | (go_at_call 53; (with_reducible refine hM.mono ?_); rintro e w9 ⟨rfl, rfl⟩; clear hM)
            | (go_at_call 54; (with_reducible refine hn.mono ?_); rintro e w4 ⟨rfl, hc⟩; have C4 : Hid (CS w0 w p w3.heap.size #[.int .i64 2, .slice none 0 0, .string ⟨#[]⟩, .string ⟨#[]⟩, .slice a pre.length cap, .int .i64 0, .int .i64 0, .int .i64 0, .int .i64 0, .slice none 0 0, .string ⟨#[]⟩] (.slice none 0 0) [] (.slice a pre.length cap) pre r1 w4) := hc; have k4 := cell_of hc.box 4 _ rfl; clear hc hn))
          have hn := (C4.out.same (Turned.drew _ _)).small_no HS.out
          refine wp_region_any (by kernel_rfl) ?_
          change wpAny _ _ _ _ _ _ _ (World.drew _)
          refine wpAny_take (i := 0) (v := .pointer (some ⟨w3.heap.size, 4, none⟩)) rfl (by kernel_rfl) (by kernel_rfl) (by kernel_rfl) (fun _ _ _ h => h) (Or.inl ⟨by rfl, fun w => by go_simp⟩) ?_
          refine wpAny_take (i := 2) (v := .string (bs x)) rfl (by kernel_rfl) (by kernel_rfl) (by kernel_rfl) (fun _ _ _ h => h) (Or.inl ⟨by rfl, fun w => by go_simp⟩) ?_
          refine wpAny_take (i := 3) (v := pt p) rfl (by kernel_rfl) (by kernel_rfl) (by kernel_rfl) (fun _ _ _ h => h) (Or.inl ⟨by rfl, fun w => by go_simp⟩) ?_
          refine wpAny_ready (rs := [1, 4]) (by kernel_rfl) (by simp) ?_
          refine AllReady.cons rfl (fun K hK => ?_) (AllReady.cons rfl (fun K hK => ?_) AllReady.nil)
          · go_simp
            refine hK _ _ ?_
            refine wpAny_ready (rs := [4]) (by kernel_rfl) (by simp) ?_
            refine AllReady.cons rfl (fun K hK => ?_) AllReady.nil
            go_simp
            (with_reducible refine hn.mono ?_)
            rintro e w5 ⟨rfl, ht⟩
            rw [HN.out]
            exact ⟨rfl, rfl, ht⟩
          · go_simp
            (with_reducible refine hn.mono ?_)
            rintro e w5 ⟨rfl, ht⟩
            rw [HN.out]
            exact ⟨rfl, rfl, ht⟩
        | some q2 =>
          obtain ⟨n, r2⟩ := q2
          have GO : Hid (pTree (aft s) = (pTree r2).map (pre ++ [(x, n)] ++ ·) ∧ r2.length < r.length) := (by
            have : pTree (aft s) = (pTree r2).map (pre ++ [(x, n)] ++ ·) ∧ r2.length < r.length := ⟨by
              rw [PT.out, pTree_some hq hq2]
              cases pTree r2 <;> simp, by have := pText_lt hq; have := pNum_lt (pSmall_num hq2).1; omega⟩
            exact this)
          have HS : Hid (pSmall r1 = some (n, r2)) := hq2
          have c6 : Hid (pre.length + 1 ≤ maxLen ∧ (pre.length + 1) * 24 ≤ 140737488355328) := (by have := G.out; have := HLN.out; simp only [maxLen]; omega : pre.length + 1 ≤ maxLen ∧ (pre.length + 1) * 24 ≤ 140737488355328)
          clear hq hq2
          go_wp2_with (first
            | (go_at_call 53; (with_reducible refine hM.mono ?_); rintro e w9 ⟨rfl, rfl⟩; clear hM)
            | (go_at_call 54; (with_reducible refine hn.mono ?_); rintro e w4 ⟨rfl, hc⟩; have C4 : Hid (CS w0 w p w3.heap.size #[.int .i64 2, .slice none 0 0, .string ⟨#[]⟩, .string ⟨#[]⟩, .slice a pre.length cap, .int .i64 0, .int .i64 0, .int .i64 0, .int .i64 0, .slice none 0 0, .string ⟨#[]⟩] (.slice none 0 0) [] (.slice a pre.length cap) pre r1 w4) := hc; have k4 := cell_of hc.box 4 _ rfl; have f4 := free_of hc.box 4; have m4 := lt_of_block hc.box; clear hc hn))
          have hn := (C4.out.same (Turned.drew _ _)).small HS.out
          go_region_law (first
            | (go_simp; go_at_call 55; (with_reducible refine hn.mono ?_); rintro e w5 ⟨rfl, hc⟩
               have C5 : Hid (CS w0 w p w3.heap.size #[.int .i64 2, .slice none 0 0, .string ⟨#[]⟩, .string ⟨#[]⟩, .slice a pre.length cap, .int .i64 0, .int .i64 0, .int .i64 0, .int .i64 0, .slice none 0 0, .string ⟨#[]⟩] (.slice none 0 0) [] (.slice a pre.length cap) pre r2 w5) := hc
               have k5 := cell_of hc.box 4 _ rfl; have f5 := free_of hc.box 4; have m5 := lt_of_block hc.box; clear hc)
            | ((refine step_append (by rfl) _ _ 35 35 (by rfl) (C5.out.new (.cells #[.string (bs x), .int .u32 n] 54)).tree Tryz.underlying35 info54 rfl (by decide) (by rfl) (.slice (some ⟨w5.heap.size, 0, none⟩) 1 1) (by rfl) ((sl_two w5 x n (S := fun _ => True) trivial).src Tryz.underlying35 (tcells_one _)) c6.out.1 c6.out.2 ?_
                intro x6 w6 q6 t6
                obtain ⟨a6, cap6, hv6, -, -⟩ := q6.value
                subst hv6
                have C6 : Hid (CS w0 w p w3.heap.size #[.int .i64 2, .slice none 0 0, .string ⟨#[]⟩, .string ⟨#[]⟩, .slice a pre.length cap, .int .i64 0, .int .i64 0, .int .i64 0, .int .i64 0, .slice none 0 0, .string ⟨#[]⟩] (.slice none 0 0) [] (.slice a6 (pre ++ [(x, n)]).length cap6) (pre ++ [(x, n)]) r2 w6) := (C5.out.new (.cells #[.string (bs x), .int .u32 n] 54)).app t6 (Sl.nil _ _ _ _) (by
                  have hb := lt_of_block C5.out.box
                  have hi := C5.out.hi
                  have hsz : (w5.alloc (.cells #[.string (bs x), .int .u32 n] 54)).heap.size = w5.heap.size + 1 := by simp
                  rw [tcells_app, List.length_append]
                  exact q6.widen fun b q => q.elim id fun q => by omega)
                have k6 := cell_of C6.out.box 4 _ rfl; have f6 := free_of C6.out.box 4; have m6 := lt_of_block C6.out.box
                clear q6 t6)))
          all_goals
            go_wp2
            go_roundg r2.length
            case measure => have := G.out; have := GO.out.2; omega
            case rel =>
              exact ⟨pre ++ [(x, n)], a6, cap6, r2, rfl, by have := G.out; have := GO.out.2; simp; omega, GO.out.1, by simpa using C6.out.put 4 (.slice a6 (pre.length + 1) cap6)⟩

end Go.Proofs.YteblabpplaaddaaGreatDoor
