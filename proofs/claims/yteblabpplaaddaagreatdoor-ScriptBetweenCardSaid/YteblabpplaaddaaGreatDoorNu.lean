/- A line's number: the walk of number. -/
import Derived.Test.YteblabpplaaddaaGreatDoorTb
import Derived.BigQuiet
import Derived.Deep.RegionHeld3
set_option linter.unusedVariables false
set_option linter.unusedSimpArgs false
namespace Go.Proofs.YteblabpplaaddaaGreatDoor
open Go.RowKit Go.Mine Go.Mine.Sc

theorem line_turned {w w' : World} {S : Nat → Prop} {p : Nat} {s : B} (h : LineAt w p s) (ht : Turned S w w') (hp : ¬ S p) : LineAt w' p s := (ht.block p (lt_of_block h) hp).trans h

set_option maxRecDepth 100000 in
set_option maxHeartbeats 1000000 in
theorem number_ok (w0 : World) (p : Nat) (t : B) (n : Int) (w : World) (hL : Lw w0 w) (hp : w0.heap.size ≤ p) (h : LineAt w p (32 :: t)) (hn : canon (tok t) = some n) (hs : t.length ≤ 1000000) :
    Calls Tryz.prog 52 #[pt p] w fun e w' => e = .returned (.int .i64 n) ∧ LineAt w' p (aft t) ∧ Turned (· = p) w w' := by
  have hb := blank_ok p t w h
  have t1 : Turned (· = p) w (w.setCell ⟨p, 0, none⟩ (.string (bs t))) := line_turn _
  have h1 := line_put h t
  have hL1 : Lw w0 (w.setCell ⟨p, 0, none⟩ (.string (bs t))) := hL.turned t1 fun b q => by omega
  have hk : (tok t).length ≤ t.length := by have := congrArg List.length (tok_aft t); simp at this; omega
  obtain ⟨hd, hi⟩ := (canon_iff _ _).1 hn
  have hat := fun W => atoi_ok (tok t) n (by rw [hd]; exact atoiAll_itoa n hi) (by omega) W
  have hit : ∀ W, Lw w0 W → Calls Tryz.prog 66 #[.int .i64 n] W fun e w' => e = .returned (.string (bs (tok t))) ∧ Turned (fun _ => False) W w' := fun W hW => by
    have := itoa_any n hi w0 W hW
    rw [← hd] at this
    exact this
  have HIT : Hid (∀ W, Lw w0 W → Calls Tryz.prog 66 #[.int .i64 n] W fun e w' => e = .returned (.string (bs (tok t))) ∧ Turned (fun _ => False) W w') := hit
  have T1 : Hid (Turned (· = p) w (w.setCell ⟨p, 0, none⟩ (.string (bs t)))) := t1
  have L1 : Hid (Lw w0 (w.setCell ⟨p, 0, none⟩ (.string (bs t)))) := hL1
  have A1 : Hid (LineAt (w.setCell ⟨p, 0, none⟩ (.string (bs t))) p t) := h1
  generalize (w.setCell ⟨p, 0, none⟩ (.string (bs t))) = w1 at *
  have hib := ib_any t w1
  have s1 := sl_to t (tok t).length hk
  have s2 := sl_from t (tok t).length hk
  rw [take_tok] at s1
  rw [drop_tok] at s2
  have c0 := cell_of h1 0 _ rfl
  have f0 := free_of h1 0
  have l0 := lt_of_block h1
  have HB : Hid (∀ W, LineAt W p t ↔ W.heap[p]? = some (.cells #[.string (bs t)] 69 (0, 0))) := (fun _ => Iff.rfl : ∀ W, LineAt W p t ↔ W.heap[p]? = some (.cells #[.string (bs t)] 69 (0, 0)))
  have HZ : Hid (∀ W, LineAt W p t → LineAt (W.setCell ⟨p, 0, none⟩ (.string (bs (aft t)))) p (aft t)) := (fun W q => line_put q _ : ∀ W, LineAt W p t → LineAt (W.setCell ⟨p, 0, none⟩ (.string (bs (aft t)))) p (aft t))
  clear hL hp h hL1 h1 t1 hn hd hi hit
  rcases index_tok t with ⟨-, h2, h3⟩ | ⟨-, h2, h3⟩
  · rw [h2] at hib
    have hdc : decide (((tok t).length : Int) < 0) = false := by simp
    clear hs h2 h3 hk
    generalize bs (tok t) = y at *
    generalize (tok t).length = k at *
    generalize bs t = x at *
    generalize bs (aft t) = z at *
    go_enter Tryz.func52, Tryz.ntmps52
    go_wp2_with (first
      | (go_at_call 84; (with_reducible refine hb.mono ?_); rintro e w1 ⟨rfl, rfl⟩)
      | (go_at_call 83; (with_reducible refine hib.mono ?_); rintro e w1 ⟨rfl, rfl⟩)
      | (go_at_call 85; (with_reducible refine (hat _).mono ?_); rintro e w2 ⟨rfl, ht2⟩
         have HX : Hid (Lw w0 w2 ∧ LineAt w2 p t ∧ Turned (fun _ => False) w1 w2) := ⟨L1.out.turned0 ht2, line_turned A1.out ht2 id, ht2⟩
         have b2 := (HB.out _).1 (line_turned A1.out ht2 id); have c2 := cell_of b2 0 _ rfl; have f2 := free_of b2 0; have l2 := lt_of_block b2; clear c0 f0 l0 ht2 b2))
    have KS : Hid (∀ W, Turned (fun _ => False) w2 W → Turned (fun _ => False) w2 W ∧ W.cell? ⟨p, 0, none⟩ = some (.string x)) := (fun W t => ⟨t, cell_of ((HB.out _).1 (line_turned HX.out.2.1 t id)) 0 _ rfl⟩ : ∀ W, Turned (fun _ => False) w2 W → Turned (fun _ => False) w2 W ∧ W.cell? ⟨p, 0, none⟩ = some (.string x))
    have KL : Hid (∀ W, Turned (fun _ => False) w2 W → Calls Tryz.prog 66 #[.int .i64 n] W fun e w' => e = .returned (.string y) ∧ Turned (fun _ => False) W w') := (fun W t => HIT.out _ (HX.out.1.turned0 t) : ∀ W, Turned (fun _ => False) w2 W → Calls Tryz.prog 66 #[.int .i64 n] W fun e w' => e = .returned (.string y) ∧ Turned (fun _ => False) W w')
    have V0 : Turned (fun _ => False) w2 w2.drew := Turned.drew _ _
    go_region_held3 (fun W => Turned (fun _ => False) w2 W ∧ W.cell? ⟨p, 0, none⟩ = some (.string x))
      (first | (exact KS.out _ (by assumption)) | go_keep)
      (first | (go_at_call 66; (with_reducible refine (KL.out _ V0).mono ?_); rintro e v1 ⟨rfl, hv⟩; have V1 : Turned (fun _ => False) w2 v1 := V0.trans hv (fun _ _ q => q); clear hv))
    have B1 : Hid (LineAt v1 p t ∧ Turned (· = p) w v1) := ⟨line_turned HX.out.2.1 V1 id, (T1.out.trans HX.out.2.2 fun _ _ q => q.elim).trans V1 fun _ _ q => q.elim⟩
    have b3 := (HB.out _).1 B1.out.1
    have c3 := cell_of b3 0 _ rfl
    have f3 := free_of b3 0
    have l3 := lt_of_block b3
    clear c2 f2 l2 V0 V1 b3
    go_wp2
    go_ret
    exact ⟨rfl, HZ.out _ B1.out.1, B1.out.2.set (p := ⟨p, 0, none⟩) rfl _⟩
  · rw [h2] at hib
    have hsz := bs_size t
    rw [h3] at s1 s2 hat HIT
    generalize bs (aft t) = z at *
    rw [← hsz] at s1 s2
    generalize bs t = x at *
    clear hs h2 h3 hk hsz
    go_enter Tryz.func52, Tryz.ntmps52
    go_wp2_with (first
      | (go_at_call 84; (with_reducible refine hb.mono ?_); rintro e w1 ⟨rfl, rfl⟩)
      | (go_at_call 83; (with_reducible refine hib.mono ?_); rintro e w1 ⟨rfl, rfl⟩)
      | (go_at_call 85; (with_reducible refine (hat _).mono ?_); rintro e w2 ⟨rfl, ht2⟩
         have HX : Hid (Lw w0 w2 ∧ LineAt w2 p t ∧ Turned (fun _ => False) w1 w2) := ⟨L1.out.turned0 ht2, line_turned A1.out ht2 id, ht2⟩
         have b2 := (HB.out _).1 (line_turned A1.out ht2 id); have c2 := cell_of b2 0 _ rfl; have f2 := free_of b2 0; have l2 := lt_of_block b2; clear c0 f0 l0 ht2 b2))
    have KS : Hid (∀ W, Turned (fun _ => False) w2 W → Turned (fun _ => False) w2 W ∧ W.cell? ⟨p, 0, none⟩ = some (.string x)) := (fun W t => ⟨t, cell_of ((HB.out _).1 (line_turned HX.out.2.1 t id)) 0 _ rfl⟩ : ∀ W, Turned (fun _ => False) w2 W → Turned (fun _ => False) w2 W ∧ W.cell? ⟨p, 0, none⟩ = some (.string x))
    have KL : Hid (∀ W, Turned (fun _ => False) w2 W → Calls Tryz.prog 66 #[.int .i64 n] W fun e w' => e = .returned (.string x) ∧ Turned (fun _ => False) W w') := (fun W t => HIT.out _ (HX.out.1.turned0 t) : ∀ W, Turned (fun _ => False) w2 W → Calls Tryz.prog 66 #[.int .i64 n] W fun e w' => e = .returned (.string x) ∧ Turned (fun _ => False) W w')
    have V0 : Turned (fun _ => False) w2 w2.drew := Turned.drew _ _
    go_region_held3 (fun W => Turned (fun _ => False) w2 W ∧ W.cell? ⟨p, 0, none⟩ = some (.string x))
      (first | (exact KS.out _ (by assumption)) | go_keep)
      (first | (go_at_call 66; (with_reducible refine (KL.out _ V0).mono ?_); rintro e v1 ⟨rfl, hv⟩; have V1 : Turned (fun _ => False) w2 v1 := V0.trans hv (fun _ _ q => q); clear hv))
    have B1 : Hid (LineAt v1 p t ∧ Turned (· = p) w v1) := ⟨line_turned HX.out.2.1 V1 id, (T1.out.trans HX.out.2.2 fun _ _ q => q.elim).trans V1 fun _ _ q => q.elim⟩
    have b3 := (HB.out _).1 B1.out.1
    have c3 := cell_of b3 0 _ rfl
    have f3 := free_of b3 0
    have l3 := lt_of_block b3
    clear c2 f2 l2 V0 V1 b3
    go_wp2
    go_ret
    exact ⟨rfl, HZ.out _ B1.out.1, B1.out.2.set (p := ⟨p, 0, none⟩) rfl _⟩

set_option maxRecDepth 100000 in
set_option maxHeartbeats 1000000 in
theorem number_other (w0 : World) (p : Nat) (t : B) (n : Int) (w : World) (hL : Lw w0 w) (hp : w0.heap.size ≤ p) (h : LineAt w p (32 :: t)) (ha : Lib.atoiAll (tok t) = .ok n) (hi : I64 n) (hn : Lib.itoa n ≠ tok t) (hs : t.length ≤ 1000000) :
    Calls Tryz.prog 52 #[pt p] w fun e w' => e = .panicked [wrongE] ∧ Turned (· = p) w w' := by
  have hb := blank_ok p t w h
  have t1 : Turned (· = p) w (w.setCell ⟨p, 0, none⟩ (.string (bs t))) := line_turn _
  have h1 := line_put h t
  have hL1 : Lw w0 (w.setCell ⟨p, 0, none⟩ (.string (bs t))) := hL.turned t1 fun b q => by omega
  have hk : (tok t).length ≤ t.length := by have := congrArg List.length (tok_aft t); simp at this; omega
  have hat := fun W => atoi_ok (tok t) n ha (by omega) W
  have hit : ∀ W, Lw w0 W → Calls Tryz.prog 66 #[.int .i64 n] W fun e w' => e = .returned (.string (bs (Lib.itoa n))) ∧ Turned (fun _ => False) W w' := fun W hW => itoa_any n hi w0 W hW
  have HIT : Hid (∀ W, Lw w0 W → Calls Tryz.prog 66 #[.int .i64 n] W fun e w' => e = .returned (.string (bs (Lib.itoa n))) ∧ Turned (fun _ => False) W w') := hit
  have hne := ba_ne2 (bs (Lib.itoa n)) (bs (tok t)) (fun q => hn (bs_inj q))
  generalize bs (Lib.itoa n) = u at *
  have T1 : Hid (Turned (· = p) w (w.setCell ⟨p, 0, none⟩ (.string (bs t)))) := t1
  have L1 : Hid (Lw w0 (w.setCell ⟨p, 0, none⟩ (.string (bs t)))) := hL1
  have A1 : Hid (LineAt (w.setCell ⟨p, 0, none⟩ (.string (bs t))) p t) := h1
  generalize (w.setCell ⟨p, 0, none⟩ (.string (bs t))) = w1 at *
  have hib := ib_any t w1
  have s1 := sl_to t (tok t).length hk
  have s2 := sl_from t (tok t).length hk
  rw [take_tok] at s1
  rw [drop_tok] at s2
  have c0 := cell_of h1 0 _ rfl
  have f0 := free_of h1 0
  have l0 := lt_of_block h1
  have HB : Hid (∀ W, LineAt W p t ↔ W.heap[p]? = some (.cells #[.string (bs t)] 69 (0, 0))) := (fun _ => Iff.rfl : ∀ W, LineAt W p t ↔ W.heap[p]? = some (.cells #[.string (bs t)] 69 (0, 0)))
  have HZ : Hid (∀ W, LineAt W p t → LineAt (W.setCell ⟨p, 0, none⟩ (.string (bs (aft t)))) p (aft t)) := (fun W q => line_put q _ : ∀ W, LineAt W p t → LineAt (W.setCell ⟨p, 0, none⟩ (.string (bs (aft t)))) p (aft t))
  clear hL hp h hL1 h1 t1 hn ha hi hit
  rcases index_tok t with ⟨-, h2, h3⟩ | ⟨-, h2, h3⟩
  · rw [h2] at hib
    have hdc : decide (((tok t).length : Int) < 0) = false := by simp
    clear hs h2 h3 hk
    generalize bs (tok t) = y at *
    generalize (tok t).length = k at *
    generalize bs t = x at *
    generalize bs (aft t) = z at *
    go_enter Tryz.func52, Tryz.ntmps52
    go_wp2_with (first
      | (go_at_call 84; (with_reducible refine hb.mono ?_); rintro e w1 ⟨rfl, rfl⟩)
      | (go_at_call 83; (with_reducible refine hib.mono ?_); rintro e w1 ⟨rfl, rfl⟩)
      | (go_at_call 85; (with_reducible refine (hat _).mono ?_); rintro e w2 ⟨rfl, ht2⟩
         have HX : Hid (Lw w0 w2 ∧ LineAt w2 p t ∧ Turned (fun _ => False) w1 w2) := ⟨L1.out.turned0 ht2, line_turned A1.out ht2 id, ht2⟩
         have b2 := (HB.out _).1 (line_turned A1.out ht2 id); have c2 := cell_of b2 0 _ rfl; have f2 := free_of b2 0; have l2 := lt_of_block b2; clear c0 f0 l0 ht2 b2))
    have KS : Hid (∀ W, Turned (fun _ => False) w2 W → Turned (fun _ => False) w2 W ∧ W.cell? ⟨p, 0, none⟩ = some (.string x)) := (fun W t => ⟨t, cell_of ((HB.out _).1 (line_turned HX.out.2.1 t id)) 0 _ rfl⟩ : ∀ W, Turned (fun _ => False) w2 W → Turned (fun _ => False) w2 W ∧ W.cell? ⟨p, 0, none⟩ = some (.string x))
    have KL : Hid (∀ W, Turned (fun _ => False) w2 W → Calls Tryz.prog 66 #[.int .i64 n] W fun e w' => e = .returned (.string u) ∧ Turned (fun _ => False) W w') := (fun W t => HIT.out _ (HX.out.1.turned0 t) : ∀ W, Turned (fun _ => False) w2 W → Calls Tryz.prog 66 #[.int .i64 n] W fun e w' => e = .returned (.string u) ∧ Turned (fun _ => False) W w')
    have V0 : Turned (fun _ => False) w2 w2.drew := Turned.drew _ _
    go_region_held3 (fun W => Turned (fun _ => False) w2 W ∧ W.cell? ⟨p, 0, none⟩ = some (.string x))
      (first | (exact KS.out _ (by assumption)) | go_keep)
      (first | (go_at_call 66; (with_reducible refine (KL.out _ V0).mono ?_); rintro e v1 ⟨rfl, hv⟩; have V1 : Turned (fun _ => False) w2 v1 := V0.trans hv (fun _ _ q => q); clear hv))
    go_wp2
    exact ⟨rfl, rfl, (T1.out.trans HX.out.2.2 fun _ _ q => q.elim).trans V1 fun _ _ q => q.elim⟩
  · rw [h2] at hib
    have hsz := bs_size t
    rw [h3] at s1 s2 hat hne
    generalize bs (aft t) = z at *
    rw [← hsz] at s1 s2
    generalize bs t = x at *
    clear hs h2 h3 hk hsz
    go_enter Tryz.func52, Tryz.ntmps52
    go_wp2_with (first
      | (go_at_call 84; (with_reducible refine hb.mono ?_); rintro e w1 ⟨rfl, rfl⟩)
      | (go_at_call 83; (with_reducible refine hib.mono ?_); rintro e w1 ⟨rfl, rfl⟩)
      | (go_at_call 85; (with_reducible refine (hat _).mono ?_); rintro e w2 ⟨rfl, ht2⟩
         have HX : Hid (Lw w0 w2 ∧ LineAt w2 p t ∧ Turned (fun _ => False) w1 w2) := ⟨L1.out.turned0 ht2, line_turned A1.out ht2 id, ht2⟩
         have b2 := (HB.out _).1 (line_turned A1.out ht2 id); have c2 := cell_of b2 0 _ rfl; have f2 := free_of b2 0; have l2 := lt_of_block b2; clear c0 f0 l0 ht2 b2))
    have KS : Hid (∀ W, Turned (fun _ => False) w2 W → Turned (fun _ => False) w2 W ∧ W.cell? ⟨p, 0, none⟩ = some (.string x)) := (fun W t => ⟨t, cell_of ((HB.out _).1 (line_turned HX.out.2.1 t id)) 0 _ rfl⟩ : ∀ W, Turned (fun _ => False) w2 W → Turned (fun _ => False) w2 W ∧ W.cell? ⟨p, 0, none⟩ = some (.string x))
    have KL : Hid (∀ W, Turned (fun _ => False) w2 W → Calls Tryz.prog 66 #[.int .i64 n] W fun e w' => e = .returned (.string u) ∧ Turned (fun _ => False) W w') := (fun W t => HIT.out _ (HX.out.1.turned0 t) : ∀ W, Turned (fun _ => False) w2 W → Calls Tryz.prog 66 #[.int .i64 n] W fun e w' => e = .returned (.string u) ∧ Turned (fun _ => False) W w')
    have V0 : Turned (fun _ => False) w2 w2.drew := Turned.drew _ _
    go_region_held3 (fun W => Turned (fun _ => False) w2 W ∧ W.cell? ⟨p, 0, none⟩ = some (.string x))
      (first | (exact KS.out _ (by assumption)) | go_keep)
      (first | (go_at_call 66; (with_reducible refine (KL.out _ V0).mono ?_); rintro e v1 ⟨rfl, hv⟩; have V1 : Turned (fun _ => False) w2 v1 := V0.trans hv (fun _ _ q => q); clear hv))
    go_wp2
    exact ⟨rfl, rfl, (T1.out.trans HX.out.2.2 fun _ _ q => q.elim).trans V1 fun _ _ q => q.elim⟩

set_option maxRecDepth 100000 in
set_option maxHeartbeats 1000000 in
theorem number_err (w0 : World) (p : Nat) (t : B) (w : World) (hL : Lw w0 w) (hp : w0.heap.size ≤ p) (h : LineAt w p (32 :: t)) (ha : ∀ n, Lib.atoiAll (tok t) ≠ .ok n) (hs : t.length ≤ 1000000) :
    Calls Tryz.prog 52 #[pt p] w fun e w' => e = .panicked [wrongE] ∧ Turned (· = p) w w' := by
  have hb := blank_ok p t w h
  have t1 : Turned (· = p) w (w.setCell ⟨p, 0, none⟩ (.string (bs t))) := line_turn _
  have h1 := line_put h t
  have hL1 : Lw w0 (w.setCell ⟨p, 0, none⟩ (.string (bs t))) := hL.turned t1 fun b q => by omega
  have hk : (tok t).length ≤ t.length := by have := congrArg List.length (tok_aft t); simp at this; omega
  have hat := atoi_no (tok t) ha (by omega) w0 (w.setCell ⟨p, 0, none⟩ (.string (bs t))) hL1
  have T1 : Hid (Turned (· = p) w (w.setCell ⟨p, 0, none⟩ (.string (bs t)))) := t1
  have L1 : Hid (Lw w0 (w.setCell ⟨p, 0, none⟩ (.string (bs t)))) := hL1
  have A1 : Hid (LineAt (w.setCell ⟨p, 0, none⟩ (.string (bs t))) p t) := h1
  generalize (w.setCell ⟨p, 0, none⟩ (.string (bs t))) = w1 at *
  have hib := ib_any t w1
  have s1 := sl_to t (tok t).length hk
  have s2 := sl_from t (tok t).length hk
  rw [take_tok] at s1
  rw [drop_tok] at s2
  have c0 := cell_of h1 0 _ rfl
  have f0 := free_of h1 0
  have l0 := lt_of_block h1
  have HB : Hid (∀ W, LineAt W p t ↔ W.heap[p]? = some (.cells #[.string (bs t)] 69 (0, 0))) := (fun _ => Iff.rfl : ∀ W, LineAt W p t ↔ W.heap[p]? = some (.cells #[.string (bs t)] 69 (0, 0)))
  have HZ : Hid (∀ W, LineAt W p t → LineAt (W.setCell ⟨p, 0, none⟩ (.string (bs (aft t)))) p (aft t)) := (fun W q => line_put q _ : ∀ W, LineAt W p t → LineAt (W.setCell ⟨p, 0, none⟩ (.string (bs (aft t)))) p (aft t))
  clear hL hp h hL1 h1 t1 ha
  rcases index_tok t with ⟨-, h2, h3⟩ | ⟨-, h2, h3⟩
  · rw [h2] at hib
    have hdc : decide (((tok t).length : Int) < 0) = false := by simp
    clear hs h2 h3 hk
    generalize bs (tok t) = y at *
    generalize (tok t).length = k at *
    generalize bs t = x at *
    generalize bs (aft t) = z at *
    go_enter Tryz.func52, Tryz.ntmps52
    go_wp2_with (first
      | (go_at_call 84; (with_reducible refine hb.mono ?_); rintro e w1 ⟨rfl, rfl⟩)
      | (go_at_call 83; (with_reducible refine hib.mono ?_); rintro e w1 ⟨rfl, rfl⟩)
      | (go_at_call 85; (with_reducible refine hat.mono ?_); rintro e w2 ⟨⟨en, et, ep, rfl⟩, ht2⟩
         have HX : Hid (Lw w0 w2 ∧ LineAt w2 p t ∧ Turned (fun _ => False) w1 w2) := ⟨L1.out.turned0 ht2, line_turned A1.out ht2 id, ht2⟩
         have b2 := (HB.out _).1 (line_turned A1.out ht2 id); have c2 := cell_of b2 0 _ rfl; have f2 := free_of b2 0; have l2 := lt_of_block b2; clear c0 f0 l0 ht2 b2))
    go_quiet (fail)
    go_wp2
    exact ⟨rfl, rfl, (T1.out.trans HX.out.2.2 fun _ _ q => q.elim).trans (turned_drewN _ _) fun _ _ q => q.elim⟩
  · rw [h2] at hib
    have hsz := bs_size t
    rw [h3] at s1 s2 hat
    generalize bs (aft t) = z at *
    rw [← hsz] at s1 s2
    generalize bs t = x at *
    clear hs h2 h3 hk hsz
    go_enter Tryz.func52, Tryz.ntmps52
    go_wp2_with (first
      | (go_at_call 84; (with_reducible refine hb.mono ?_); rintro e w1 ⟨rfl, rfl⟩)
      | (go_at_call 83; (with_reducible refine hib.mono ?_); rintro e w1 ⟨rfl, rfl⟩)
      | (go_at_call 85; (with_reducible refine hat.mono ?_); rintro e w2 ⟨⟨en, et, ep, rfl⟩, ht2⟩
         have HX : Hid (Lw w0 w2 ∧ LineAt w2 p t ∧ Turned (fun _ => False) w1 w2) := ⟨L1.out.turned0 ht2, line_turned A1.out ht2 id, ht2⟩
         have b2 := (HB.out _).1 (line_turned A1.out ht2 id); have c2 := cell_of b2 0 _ rfl; have f2 := free_of b2 0; have l2 := lt_of_block b2; clear c0 f0 l0 ht2 b2))
    go_quiet (fail)
    go_wp2
    exact ⟨rfl, rfl, (T1.out.trans HX.out.2.2 fun _ _ q => q.elim).trans (turned_drewN _ _) fun _ _ q => q.elim⟩

set_option maxRecDepth 100000 in
theorem number_no (p : Nat) (s : B) (w : World) (h : LineAt w p s) (hs : s.head? ≠ some 32) : Calls Tryz.prog 52 #[pt p] w fun e w' => e = .panicked [wrongE] ∧ Turned (· = p) w w' := by
  have hb := blank_no p s w h hs
  clear h hs
  go_enter Tryz.func52, Tryz.ntmps52
  go_wp2_with (go_at_call 84; (with_reducible refine hb.mono ?_); rintro e w1 ⟨rfl, ht⟩)
  exact ⟨rfl, rfl, ht.mono fun _ _ q => q.elim⟩

/-- number, by its plain reading -/
def NumPost (w : World) (p : Nat) : Option (Int × B) → Ending → World → Prop
  | some (n, r), e, w' => e = .returned (.int .i64 n) ∧ LineAt w' p r ∧ Turned (· = p) w w'
  | none, e, w' => e = .panicked [wrongE] ∧ Turned (· = p) w w'
theorem number_any (w0 : World) (p : Nat) (s : B) (w : World) (hL : Lw w0 w) (hp : w0.heap.size ≤ p) (h : LineAt w p s) (hs : s.length ≤ 1000000) :
    Calls Tryz.prog 52 #[pt p] w (NumPost w p (pNum s)) := by
  cases s with
  | nil => exact number_no p [] w h (by simp)
  | cons c t =>
    by_cases hc : c = 32
    · subst hc
      have hlt : t.length ≤ 1000000 := by simp at hs; omega
      cases hn : canon (tok t) with
      | some n =>
        have : pNum (32 :: t) = some (n, aft t) := by simp [pNum, hn]
        rw [this]
        exact number_ok w0 p t n w hL hp h hn hlt
      | none =>
        have : pNum (32 :: t) = none := by simp [pNum, hn]
        rw [this]
        unfold canon at hn
        cases ha : Lib.atoiAll (tok t) with
        | ok n =>
          rw [ha] at hn
          refine number_other w0 p t n w hL hp h ha (Lib.atoiAll_bounds ha) (fun q => ?_) hlt
          simp [q] at hn
        | _ => exact number_err w0 p t w hL hp h (fun n => by rw [ha]; simp) hlt
    · have : pNum (c :: t) = none := by simp [pNum, hc]
      rw [this]
      exact number_no p (c :: t) w h (by simpa using hc)
end Go.Proofs.YteblabpplaaddaaGreatDoor
