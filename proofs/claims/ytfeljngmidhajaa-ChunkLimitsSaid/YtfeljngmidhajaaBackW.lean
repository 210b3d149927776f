/- ChunkBack: the walks, printed by gen_back.py: one for each way that the text may go. -/
import Derived.Test.YtfeljngmidhajaaBackp
import Derived.Test.YtfeljngmidhajaaHolds
namespace Go.Proofs.Ytfeljngmidhajaa
open Go.RowKit Go.Mine

theorem findCh_in (l : List Ch) (c : Ch) (hn : (l.map (·.1)).Nodup) (hc : c ∈ l) : findCh l c.1 = some c := by
  induction l with
  | nil => simp at hc
  | cons d l ih =>
    unfold findCh
    rw [List.map_cons, List.nodup_cons] at hn
    rcases List.mem_cons.1 hc with rfl | hc
    · simp
    · have hne : d.1 ≠ c.1 := fun q => hn.1 (by rw [q]; exact List.mem_map.2 ⟨c, hc, rfl⟩)
      rw [List.find?_cons_of_neg (by simpa using hne)]
      exact ih hn.2 hc

theorem parse_err (t : ByteArray) (k : Nat) (h : parseR t = .error k) : k ≠ 0 := by
  unfold parseR at h
  split at h
  · simp at h; omega
  split at h
  · simp at h; omega
  split at h
  · simp at h; omega
  split at h
  · simp at h; omega
  · cases hp : progT (t.extract 5 (t.size - 4)) with
    | none => rw [hp] at h; simp [finR] at h; omega
    | some l => rw [hp] at h; simp [finR] at h

def BkRel (w : World) (n : Nat) (g : Nat) (i : Value) (wr : World) : Prop := ∃ k : Nat, k + g = n ∧ i = .int .i64 k ∧ Turned (fun _ => False) w wr

set_option maxRecDepth 100000 in
set_option maxHeartbeats 8000000 in
theorem back_big (a : Option Addr) (cap : Nat) (l : List Ch) (t : ByteArray) (w : World) (h : ChIs w a cap l) (hs : t.size ≤ 140737488355328) (hbig : 4194304 < t.size) :
    Calls Try.prog 9 #[.slice a l.length cap, .string t] w fun e w' => e = .returned (.bool true) ∧ Turned (fun _ => False) w w' := by
  have hh := holds_any w
  have HC : Hid (ChIs w a cap l) := h
  have hB := fun W (ht : Turned (fun _ => False) w W) => build_any a cap l W (h.turned ht)
  have hd : decide ((4194304 : Int) < (t.size : Int)) = true := by simp; omega
  have hd2 : decide (4194304 < t.size) = true := by simp; omega
  clear hbig hs
  by_cases hbe : buildErr l = 0
  · have hbv : buildV l = .tuple #[.string (built l), .int .i64 0] := by unfold buildV; rw [hbe]; rfl
    rw [hbv] at hB
    have hsm : Small l := h.2.2.1
    have hpb := parse_built l hbe hsm
    have hbz := built_size l
    have hb3 := ((buildErr_iff l).1 hbe)
    have hPl : ∀ W, Calls Try.prog 29 #[.string (built l)] W fun e w' => Turned (fun _ => False) W w' ∧ ∃ v, e = .returned (.tuple #[v, .int .i64 0]) ∧ Sl w' (fun b => W.heap.size ≤ b) 31 2 v (ccells (sortCh l)) l.length := fun W => by
      have := parse_any (built l) W (by omega)
      rw [hpb] at this
      unfold ParsePost at this
      rw [← sortCh_length l]
      exact this
    have hnd := (checkCh_ok l [] hb3.2.1 (by simp)).1
    have hF : ∀ (i : Nat) (c : Ch) W, (sortCh l)[i]? = some c → Turned (fun _ => False) w W → Calls Try.prog 20 #[.slice a l.length cap, .int .u32 (c.1 : Nat)] W fun e w' => e = .returned (.tuple #[.string c.2, .bool true]) ∧ Turned (fun _ => False) W w' := fun i c W hc ht => by
      have := find_any a cap l c.1 W (h.turned ht)
      rw [findCh_in l c (by simpa using hnd) ((sortCh_perm l).mem_iff.1 (List.mem_of_getElem? hc))] at this
      exact this
    have hRs := (built_sorted l hbe).1
    have hln := sortCh_length l
    generalize built l = s at *
    obtain ⟨L, hL⟩ : ∃ L, L = l.length := ⟨_, rfl⟩
    rw [← hL] at hB hPl hF hln ⊢
    have HL : Hid (L ≤ 16) := (by omega : L ≤ 16)
    have HLN : Hid ((sortCh l).length = L ∧ Rising (sortCh l)) := ⟨hln, hRs⟩
    have FB : Hid (∀ W, Turned (fun _ => False) w W → Calls Try.prog 17 #[.slice a L cap] W fun e w' => e = .returned (.tuple #[.string s, .int .i64 0]) ∧ Turned (fun _ => False) W w') := hB
    have PL : Hid (∀ W, Calls Try.prog 29 #[.string s] W fun e w' => Turned (fun _ => False) W w' ∧ ∃ v, e = .returned (.tuple #[v, .int .i64 0]) ∧ Sl w' (fun b => W.heap.size ≤ b) 31 2 v (ccells (sortCh l)) L) := hPl
    have FF : Hid (∀ (i : Nat) (c : Ch) W, (sortCh l)[i]? = some c → Turned (fun _ => False) w W → Calls Try.prog 20 #[.slice a L cap, .int .u32 (c.1 : Nat)] W fun e w' => e = .returned (.tuple #[.string c.2, .bool true]) ∧ Turned (fun _ => False) W w') := hF
    clear hB hPl hF hln hRs hnd hb3 hbz hpb hsm hbv hbe h hL
    go_enter Try.func9, Try.ntmps9
    go_wp2_with (first
      | (go_at_call 15; (with_reducible refine hh.mono ?_); rintro e w1 ⟨rfl, ht1⟩; have T1 : Hid (Turned (fun _ => False) w w1) := ht1; have h17 := FB.out w1 ht1; clear ht1)
      | (go_at_call 17; (with_reducible refine h17.mono ?_); rintro e w2 ⟨rfl, ht2⟩; have T2 : Hid (Turned (fun _ => False) w w2) := T1.out.trans ht2 (fun _ _ q => q); have h29 := PL.out w2; clear ht2 h17)
      | (go_at_call 29; (with_reducible refine h29.mono ?_); rintro e w3 ⟨ht3, v3, rfl, hs3⟩; obtain ⟨a3, cap3, rfl, -, -⟩ := hs3.value; have T3 : Hid (Turned (fun _ => False) w w3 ∧ Sl w3 (fun b => w2.heap.size ≤ b) 31 2 (.slice a3 L cap3) (ccells (sortCh l)) L) := ⟨T2.out.trans ht3 (fun _ _ q => q), hs3⟩; clear ht3 h29 hs3))
    go_loopg [41] L (fun g i wr => BkRel w3 L g i wr)
    case atStart => exact ⟨0, by omega, rfl, Turned.refl _ _⟩
    case round =>
      obtain ⟨i, hig, rfl, htr⟩ := hrel
      have G : Hid (i + gk = L) := hig
      have TR : Hid (Turned (fun _ => False) w3 wr) := htr
      clear hig htr
      by_cases hlt : i < L
      · obtain ⟨c, hc⟩ : ∃ c, (sortCh l)[i]? = some c := ⟨_, List.getElem?_eq_getElem (by rw [HLN.out.1]; exact hlt)⟩
        have hslr := T3.out.2.turned TR.out fun _ _ q => q
        obtain ⟨g, off, cp, hv, -, -, -, hcl, -, hgl⟩ := hslr.opens (by omega)
        injection hv with e1 e2 e3
        subst e1
        subst e3
        have c0 := (hcl (i * 2) (by omega)).trans (ccells_get _ i c hc).1
        have c1 := (hcl (i * 2 + 1) (by omega)).trans (ccells_get _ i c hc).2
        rw [← Nat.add_assoc] at c1
        have HC2 : Hid ((sortCh l)[i]? = some c) := hc
        have hff := FF.out i c (wr.alloc (.cells #[.int .u32 (c.1 : Nat), .string c.2] 31)) hc ((T3.out.1.trans TR.out fun _ _ q => q).new _)
        have hcell : ∀ w5, Turned (fun _ => False) (wr.alloc (.cells #[.int .u32 (c.1 : Nat), .string c.2] 31)) w5 → w5.cell? ⟨wr.heap.size, 0, none⟩ = some (.int .u32 (c.1 : Nat)) ∧ w5.cell? ⟨wr.heap.size, 1, none⟩ = some (.string c.2) ∧ wr.heap.size < w5.heap.size ∧ g < w5.heap.size := fun w5 t5 => by
          have hz : (wr.alloc (.cells #[.int .u32 (c.1 : Nat), .string c.2] 31)).heap.size = wr.heap.size + 1 := by simp
          have := t5.size
          refine ⟨?_, ?_, by omega, by omega⟩
          · rw [World.cell?_of_block (w' := w5) (t5.block wr.heap.size (by omega) fun q => q)]
            exact cell_of (heap_alloc_last wr _) 0 _ rfl
          · rw [World.cell?_of_block (w' := w5) (t5.block wr.heap.size (by omega) fun q => q)]
            exact cell_of (heap_alloc_last wr _) 1 _ rfl
        have HCE : Hid (∀ w5, Turned (fun _ => False) (wr.alloc (.cells #[.int .u32 (c.1 : Nat), .string c.2] 31)) w5 → w5.cell? ⟨wr.heap.size, 0, none⟩ = some (.int .u32 (c.1 : Nat)) ∧ w5.cell? ⟨wr.heap.size, 1, none⟩ = some (.string c.2) ∧ wr.heap.size < w5.heap.size ∧ g < w5.heap.size) := hcell
        have HCLr : Hid (∀ j, j < L * 2 → wr.cell? ⟨g, off + j, none⟩ = (ccells (sortCh l))[j]?) := hcl
        have HGL : Hid (g < wr.heap.size) := hgl
        clear hcl hcell hc hslr e2
        by_cases hi0 : i = 0
        · subst hi0
          simp only [Nat.zero_mul, Nat.add_zero] at c0 c1
          go_wp2_with (go_at_call 20; (with_reducible refine hff.mono ?_); rintro e w5 ⟨rfl, ht5⟩; obtain ⟨f0, f1, f2, f3⟩ := HCE.out w5 ht5; have T5 : Hid (Turned (fun _ => False) wr w5) := (Turned.alloc (fun _ => False) wr _).trans ht5 (fun _ _ q => q); clear ht5)
          go_region
          all_goals go_wp2
          all_goals
            go_roundg (gk - 1)
            case measure => have := G.out; omega
            case rel => exact ⟨1, by have := G.out; omega, by rfl, (TR.out.trans T5.out fun _ _ q => q).draw⟩
        · obtain ⟨j, rfl⟩ : ∃ j, i = j + 1 := ⟨i - 1, by omega⟩
          obtain ⟨d, hd0⟩ : ∃ d, (sortCh l)[j]? = some d := ⟨_, List.getElem?_eq_getElem (by rw [HLN.out.1]; omega)⟩
          have hlt3 : j < L := by omega
          have hdc : d.1 < c.1 := by
            obtain ⟨y1, z1⟩ := List.getElem?_eq_some_iff.1 hd0
            obtain ⟨y2, z2⟩ := List.getElem?_eq_some_iff.1 HC2.out
            have := List.pairwise_iff_getElem.1 HLN.out.2 j (j + 1) y1 y2 (by omega)
            rw [z1, z2] at this
            exact this
          have hd7 : decide ((c.1 : Int) ≤ (d.1 : Int)) = false := by simp; omega
          have hd8 : decide (c.1 ≤ d.1) = false := by simp; omega
          have hd9 : decide ((0 : Int) < (j : Int) + 1) = true := by rw [decide_eq_true_iff]; omega
          have hwm : wrap64 (j : Int) = (j : Int) := by have := HL.out; simp [wrap64]; omega
          have dj := (HCLr.out (j * 2) (by omega)).trans (ccells_get _ j d hd0).1
          have DJ : Hid (∀ w5, Turned (fun _ => False) wr w5 → w5.cell? ⟨g, off + j * 2, none⟩ = some (.int .u32 (d.1 : Nat))) := fun w5 t5 => by
            rw [World.cell?_of_block (w' := w5) (t5.block g HGL.out fun q => q)]; exact dj
          clear hd0 hdc dj hi0
          go_wp2_with (go_at_call 20; (with_reducible refine hff.mono ?_); rintro e w5 ⟨rfl, ht5⟩; obtain ⟨f0, f1, f2, f3⟩ := HCE.out w5 ht5; have T5 : Hid (Turned (fun _ => False) wr w5) := (Turned.alloc (fun _ => False) wr _).trans ht5 (fun _ _ q => q); have d5 := DJ.out w5 T5.out; clear ht5)
          go_region
          all_goals go_wp2
          all_goals
            go_roundg (gk - 1)
            case measure => have := G.out; omega
            case rel => exact ⟨j + 1 + 1, by have := G.out; omega, by have := HL.out; simp [wrap64]; omega, (TR.out.trans T5.out fun _ _ q => q).draw⟩
      · have hi : i = L := by have := G.out; omega
        subst hi
        clear hlt
        go_wp2
        go_ret
        exact ⟨rfl, (T3.out.1.trans TR.out fun _ _ q => q)⟩
  · have hbv : buildV l = .tuple #[.string ⟨#[]⟩, .int .i64 (buildErr l : Nat)] := by unfold buildV; rw [if_neg hbe]
    rw [hbv] at hB
    have hd5 : ((buildErr l : Int) == 0) = false := by simp; omega
    generalize buildErr l = be at *
    generalize l.length = L at *
    have FB : Hid (∀ W, Turned (fun _ => False) w W → Calls Try.prog 17 #[.slice a L cap] W fun e w' => e = .returned (.tuple #[.string ⟨#[]⟩, .int .i64 (be : Nat)]) ∧ Turned (fun _ => False) W w') := hB
    clear hB hbv hbe h
    go_enter Try.func9, Try.ntmps9
    go_wp2_with (first | (go_at_call 15; (with_reducible refine hh.mono ?_); rintro e w1 ⟨rfl, ht1⟩; have T1 : Hid (Turned (fun _ => False) w w1) := ht1; have h17 := FB.out w1 ht1; clear ht1) | (go_at_call 17; (with_reducible refine h17.mono ?_); rintro e w2 ⟨rfl, ht2⟩; have T2 : Hid (Turned (fun _ => False) w w2) := T1.out.trans ht2 (fun _ _ q => q); clear ht2 h17))
    go_ret
    exact ⟨rfl, T2.out⟩

set_option maxRecDepth 100000 in
set_option maxHeartbeats 8000000 in
theorem back_err (a : Option Addr) (cap : Nat) (l : List Ch) (t : ByteArray) (w : World) (h : ChIs w a cap l) (hs : t.size ≤ 140737488355328) (hbig : ¬ 4194304 < t.size) (k : Nat) (hR : parseR (sealed t) = .error k) :
    Calls Try.prog 9 #[.slice a l.length cap, .string t] w fun e w' => e = .returned (.bool true) ∧ Turned (fun _ => False) w w' := by
  have hh := holds_any w
  have HC : Hid (ChIs w a cap l) := h
  have hB := fun W (ht : Turned (fun _ => False) w W) => build_any a cap l W (h.turned ht)
  have hd : decide ((4194304 : Int) < (t.size : Int)) = false := by simp; omega
  have hd2 : decide (4194304 < t.size) = false := by simp; omega
  have hk := parse_err _ k hR
  have hk0 : ((k : Int) == 0) = false := by simp; omega
  have hse := fun W => sealed_any t W (by omega)
  have hps : ∀ W, Calls Try.prog 29 #[.string (sealed t)] W fun e w' => Turned (fun _ => False) W w' ∧ e = .returned (.tuple #[.slice none 0 0, .int .i64 (k : Nat)]) := fun W => by
    have := parse_any (sealed t) W (by rw [sealed_size]; omega)
    rw [hR] at this
    exact this
  clear hbig hs hR hk
  generalize sealed t = st at *
  by_cases hbe : buildErr l = 0
  · have hbv : buildV l = .tuple #[.string (built l), .int .i64 0] := by unfold buildV; rw [hbe]; rfl
    rw [hbv] at hB
    have hsm : Small l := h.2.2.1
    have hpb := parse_built l hbe hsm
    have hbz := built_size l
    have hb3 := ((buildErr_iff l).1 hbe)
    have hPl : ∀ W, Calls Try.prog 29 #[.string (built l)] W fun e w' => Turned (fun _ => False) W w' ∧ ∃ v, e = .returned (.tuple #[v, .int .i64 0]) ∧ Sl w' (fun b => W.heap.size ≤ b) 31 2 v (ccells (sortCh l)) l.length := fun W => by
      have := parse_any (built l) W (by omega)
      rw [hpb] at this
      unfold ParsePost at this
      rw [← sortCh_length l]
      exact this
    have hnd := (checkCh_ok l [] hb3.2.1 (by simp)).1
    have hF : ∀ (i : Nat) (c : Ch) W, (sortCh l)[i]? = some c → Turned (fun _ => False) w W → Calls Try.prog 20 #[.slice a l.length cap, .int .u32 (c.1 : Nat)] W fun e w' => e = .returned (.tuple #[.string c.2, .bool true]) ∧ Turned (fun _ => False) W w' := fun i c W hc ht => by
      have := find_any a cap l c.1 W (h.turned ht)
      rw [findCh_in l c (by simpa using hnd) ((sortCh_perm l).mem_iff.1 (List.mem_of_getElem? hc))] at this
      exact this
    have hRs := (built_sorted l hbe).1
    have hln := sortCh_length l
    generalize built l = s at *
    obtain ⟨L, hL⟩ : ∃ L, L = l.length := ⟨_, rfl⟩
    rw [← hL] at hB hPl hF hln ⊢
    have HL : Hid (L ≤ 16) := (by omega : L ≤ 16)
    have HLN : Hid ((sortCh l).length = L ∧ Rising (sortCh l)) := ⟨hln, hRs⟩
    have FB : Hid (∀ W, Turned (fun _ => False) w W → Calls Try.prog 17 #[.slice a L cap] W fun e w' => e = .returned (.tuple #[.string s, .int .i64 0]) ∧ Turned (fun _ => False) W w') := hB
    have PL : Hid (∀ W, Calls Try.prog 29 #[.string s] W fun e w' => Turned (fun _ => False) W w' ∧ ∃ v, e = .returned (.tuple #[v, .int .i64 0]) ∧ Sl w' (fun b => W.heap.size ≤ b) 31 2 v (ccells (sortCh l)) L) := hPl
    have FF : Hid (∀ (i : Nat) (c : Ch) W, (sortCh l)[i]? = some c → Turned (fun _ => False) w W → Calls Try.prog 20 #[.slice a L cap, .int .u32 (c.1 : Nat)] W fun e w' => e = .returned (.tuple #[.string c.2, .bool true]) ∧ Turned (fun _ => False) W w') := hF
    clear hB hPl hF hln hRs hnd hb3 hbz hpb hsm hbv hbe h hL
    go_enter Try.func9, Try.ntmps9
    go_wp2_with (first
      | (go_at_call 15; (with_reducible refine hh.mono ?_); rintro e w1 ⟨rfl, ht1⟩; have T1 : Hid (Turned (fun _ => False) w w1) := ht1; have h17 := FB.out w1 ht1; clear ht1)
      | (go_at_call 17; (with_reducible refine h17.mono ?_); rintro e w2 ⟨rfl, ht2⟩; have T2 : Hid (Turned (fun _ => False) w w2) := T1.out.trans ht2 (fun _ _ q => q); have h29 := PL.out w2; clear ht2 h17)
      | (go_at_call 29; (with_reducible refine h29.mono ?_); rintro e w3 ⟨ht3, v3, rfl, hs3⟩; obtain ⟨a3, cap3, rfl, -, -⟩ := hs3.value; have T3 : Hid (Turned (fun _ => False) w w3 ∧ Sl w3 (fun b => w2.heap.size ≤ b) 31 2 (.slice a3 L cap3) (ccells (sortCh l)) L) := ⟨T2.out.trans ht3 (fun _ _ q => q), hs3⟩; clear ht3 h29 hs3))
    go_loopg [41] L (fun g i wr => BkRel w3 L g i wr)
    case atStart => exact ⟨0, by omega, rfl, Turned.refl _ _⟩
    case round =>
      obtain ⟨i, hig, rfl, htr⟩ := hrel
      have G : Hid (i + gk = L) := hig
      have TR : Hid (Turned (fun _ => False) w3 wr) := htr
      clear hig htr
      by_cases hlt : i < L
      · obtain ⟨c, hc⟩ : ∃ c, (sortCh l)[i]? = some c := ⟨_, List.getElem?_eq_getElem (by rw [HLN.out.1]; exact hlt)⟩
        have hslr := T3.out.2.turned TR.out fun _ _ q => q
        obtain ⟨g, off, cp, hv, -, -, -, hcl, -, hgl⟩ := hslr.opens (by omega)
        injection hv with e1 e2 e3
        subst e1
        subst e3
        have c0 := (hcl (i * 2) (by omega)).trans (ccells_get _ i c hc).1
        have c1 := (hcl (i * 2 + 1) (by omega)).trans (ccells_get _ i c hc).2
        rw [← Nat.add_assoc] at c1
        have HC2 : Hid ((sortCh l)[i]? = some c) := hc
        have hff := FF.out i c (wr.alloc (.cells #[.int .u32 (c.1 : Nat), .string c.2] 31)) hc ((T3.out.1.trans TR.out fun _ _ q => q).new _)
        have hcell : ∀ w5, Turned (fun _ => False) (wr.alloc (.cells #[.int .u32 (c.1 : Nat), .string c.2] 31)) w5 → w5.cell? ⟨wr.heap.size, 0, none⟩ = some (.int .u32 (c.1 : Nat)) ∧ w5.cell? ⟨wr.heap.size, 1, none⟩ = some (.string c.2) ∧ wr.heap.size < w5.heap.size ∧ g < w5.heap.size := fun w5 t5 => by
          have hz : (wr.alloc (.cells #[.int .u32 (c.1 : Nat), .string c.2] 31)).heap.size = wr.heap.size + 1 := by simp
          have := t5.size
          refine ⟨?_, ?_, by omega, by omega⟩
          · rw [World.cell?_of_block (w' := w5) (t5.block wr.heap.size (by omega) fun q => q)]
            exact cell_of (heap_alloc_last wr _) 0 _ rfl
          · rw [World.cell?_of_block (w' := w5) (t5.block wr.heap.size (by omega) fun q => q)]
            exact cell_of (heap_alloc_last wr _) 1 _ rfl
        have HCE : Hid (∀ w5, Turned (fun _ => False) (wr.alloc (.cells #[.int .u32 (c.1 : Nat), .string c.2] 31)) w5 → w5.cell? ⟨wr.heap.size, 0, none⟩ = some (.int .u32 (c.1 : Nat)) ∧ w5.cell? ⟨wr.heap.size, 1, none⟩ = some (.string c.2) ∧ wr.heap.size < w5.heap.size ∧ g < w5.heap.size) := hcell
        have HCLr : Hid (∀ j, j < L * 2 → wr.cell? ⟨g, off + j, none⟩ = (ccells (sortCh l))[j]?) := hcl
        have HGL : Hid (g < wr.heap.size) := hgl
        clear hcl hcell hc hslr e2
        by_cases hi0 : i = 0
        · subst hi0
          simp only [Nat.zero_mul, Nat.add_zero] at c0 c1
          go_wp2_with (go_at_call 20; (with_reducible refine hff.mono ?_); rintro e w5 ⟨rfl, ht5⟩; obtain ⟨f0, f1, f2, f3⟩ := HCE.out w5 ht5; have T5 : Hid (Turned (fun _ => False) wr w5) := (Turned.alloc (fun _ => False) wr _).trans ht5 (fun _ _ q => q); clear ht5)
          go_region
          all_goals go_wp2
          all_goals
            go_roundg (gk - 1)
            case measure => have := G.out; omega
            case rel => exact ⟨1, by have := G.out; omega, by rfl, (TR.out.trans T5.out fun _ _ q => q).draw⟩
        · obtain ⟨j, rfl⟩ : ∃ j, i = j + 1 := ⟨i - 1, by omega⟩
          obtain ⟨d, hd0⟩ : ∃ d, (sortCh l)[j]? = some d := ⟨_, List.getElem?_eq_getElem (by rw [HLN.out.1]; omega)⟩
          have hlt3 : j < L := by omega
          have hdc : d.1 < c.1 := by
            obtain ⟨y1, z1⟩ := List.getElem?_eq_some_iff.1 hd0
            obtain ⟨y2, z2⟩ := List.getElem?_eq_some_iff.1 HC2.out
            have := List.pairwise_iff_getElem.1 HLN.out.2 j (j + 1) y1 y2 (by omega)
            rw [z1, z2] at this
            exact this
          have hd7 : decide ((c.1 : Int) ≤ (d.1 : Int)) = false := by simp; omega
          have hd8 : decide (c.1 ≤ d.1) = false := by simp; omega
          have hd9 : decide ((0 : Int) < (j : Int) + 1) = true := by rw [decide_eq_true_iff]; omega
          have hwm : wrap64 (j : Int) = (j : Int) := by have := HL.out; simp [wrap64]; omega
          have dj := (HCLr.out (j * 2) (by omega)).trans (ccells_get _ j d hd0).1
          have DJ : Hid (∀ w5, Turned (fun _ => False) wr w5 → w5.cell? ⟨g, off + j * 2, none⟩ = some (.int .u32 (d.1 : Nat))) := fun w5 t5 => by
            rw [World.cell?_of_block (w' := w5) (t5.block g HGL.out fun q => q)]; exact dj
          clear hd0 hdc dj hi0
          go_wp2_with (go_at_call 20; (with_reducible refine hff.mono ?_); rintro e w5 ⟨rfl, ht5⟩; obtain ⟨f0, f1, f2, f3⟩ := HCE.out w5 ht5; have T5 : Hid (Turned (fun _ => False) wr w5) := (Turned.alloc (fun _ => False) wr _).trans ht5 (fun _ _ q => q); have d5 := DJ.out w5 T5.out; clear ht5)
          go_region
          all_goals go_wp2
          all_goals
            go_roundg (gk - 1)
            case measure => have := G.out; omega
            case rel => exact ⟨j + 1 + 1, by have := G.out; omega, by have := HL.out; simp [wrap64]; omega, (TR.out.trans T5.out fun _ _ q => q).draw⟩
      · have hi : i = L := by have := G.out; omega
        subst hi
        clear hlt
        go_wp2_with (first | (go_at_call 31; (with_reducible refine (hse _).mono ?_); rintro e wa ⟨rfl, hta⟩) | (go_at_call 29; (with_reducible refine (hps _).mono ?_); rintro e wb ⟨htb, rfl⟩))
        go_ret
        exact ⟨rfl, ((T3.out.1.trans TR.out fun _ _ q => q).trans hta fun _ _ q => q).trans htb fun _ _ q => q⟩
  · have hbv : buildV l = .tuple #[.string ⟨#[]⟩, .int .i64 (buildErr l : Nat)] := by unfold buildV; rw [if_neg hbe]
    rw [hbv] at hB
    have hd5 : ((buildErr l : Int) == 0) = false := by simp; omega
    generalize buildErr l = be at *
    generalize l.length = L at *
    have FB : Hid (∀ W, Turned (fun _ => False) w W → Calls Try.prog 17 #[.slice a L cap] W fun e w' => e = .returned (.tuple #[.string ⟨#[]⟩, .int .i64 (be : Nat)]) ∧ Turned (fun _ => False) W w') := hB
    clear hB hbv hbe h
    go_enter Try.func9, Try.ntmps9
    go_wp2_with (first | (go_at_call 15; (with_reducible refine hh.mono ?_); rintro e w1 ⟨rfl, ht1⟩; have T1 : Hid (Turned (fun _ => False) w w1) := ht1; have h17 := FB.out w1 ht1; clear ht1) | (go_at_call 17; (with_reducible refine h17.mono ?_); rintro e w2 ⟨rfl, ht2⟩; have T2 : Hid (Turned (fun _ => False) w w2) := T1.out.trans ht2 (fun _ _ q => q); clear ht2 h17) | (go_at_call 31; (with_reducible refine (hse _).mono ?_); rintro e wa ⟨rfl, hta⟩) | (go_at_call 29; (with_reducible refine (hps _).mono ?_); rintro e wb ⟨htb, rfl⟩))
    go_ret
    exact ⟨rfl, (T2.out.trans hta fun _ _ q => q).trans htb fun _ _ q => q⟩

set_option maxRecDepth 100000 in
set_option maxHeartbeats 8000000 in
theorem back_ok (a : Option Addr) (cap : Nat) (l : List Ch) (t : ByteArray) (w : World) (h : ChIs w a cap l) (hs : t.size ≤ 140737488355328) (hbig : ¬ 4194304 < t.size) (m : List Ch) (hR : parseR (sealed t) = .ok m) :
    Calls Try.prog 9 #[.slice a l.length cap, .string t] w fun e w' => e = .returned (.bool true) ∧ Turned (fun _ => False) w w' := by
  have hh := holds_any w
  have HC : Hid (ChIs w a cap l) := h
  have hB := fun W (ht : Turned (fun _ => False) w W) => build_any a cap l W (h.turned ht)
  have hd : decide ((4194304 : Int) < (t.size : Int)) = false := by simp; omega
  have hd2 : decide (4194304 < t.size) = false := by simp; omega
  obtain ⟨hm1, hm2, hm3, hm4, -⟩ := parse_small _ m hR
  have hse := fun W => sealed_any t W (by omega)
  have hps : ∀ W, Calls Try.prog 29 #[.string (sealed t)] W fun e w' => Turned (fun _ => False) W w' ∧ ∃ v, e = .returned (.tuple #[v, .int .i64 0]) ∧ Sl w' (fun b => W.heap.size ≤ b) 31 2 v (ccells m) m.length := fun W => by
    have := parse_any (sealed t) W (by rw [sealed_size]; omega)
    rw [hR] at this
    exact this
  have hbm : ∀ W S (a : Option Addr) (cap : Nat), Sl W S 31 2 (.slice a m.length cap) (ccells m) m.length → Calls Try.prog 17 #[.slice a m.length cap] W fun e w' => e = .returned (.tuple #[.string (sealed t), .int .i64 0]) ∧ Turned (fun _ => False) W w' := fun W S a cap hsl => by
    obtain ⟨a', cap', hv, hc⟩ := sl_chIs hsl hm1
    injection hv with e1 _ e3
    subst e1; subst e3
    have := build_any a cap m W hc
    have hbv : buildV m = .tuple #[.string (sealed t), .int .i64 0] := by unfold buildV; rw [hm3, hm4]; rfl
    rw [hbv] at this
    exact this
  clear hbig hs hR hm1 hm2 hm3 hm4
  generalize sealed t = st at *
  generalize ccells m = cm at *
  generalize m.length = M at *
  have HBM : Hid (∀ W S (a : Option Addr) (cap : Nat), Sl W S 31 2 (.slice a M cap) cm M → Calls Try.prog 17 #[.slice a M cap] W fun e w' => e = .returned (.tuple #[.string st, .int .i64 0]) ∧ Turned (fun _ => False) W w') := hbm
  clear hbm
  by_cases hbe : buildErr l = 0
  · have hbv : buildV l = .tuple #[.string (built l), .int .i64 0] := by unfold buildV; rw [hbe]; rfl
    rw [hbv] at hB
    have hsm : Small l := h.2.2.1
    have hpb := parse_built l hbe hsm
    have hbz := built_size l
    have hb3 := ((buildErr_iff l).1 hbe)
    have hPl : ∀ W, Calls Try.prog 29 #[.string (built l)] W fun e w' => Turned (fun _ => False) W w' ∧ ∃ v, e = .returned (.tuple #[v, .int .i64 0]) ∧ Sl w' (fun b => W.heap.size ≤ b) 31 2 v (ccells (sortCh l)) l.length := fun W => by
      have := parse_any (built l) W (by omega)
      rw [hpb] at this
      unfold ParsePost at this
      rw [← sortCh_length l]
      exact this
    have hnd := (checkCh_ok l [] hb3.2.1 (by simp)).1
    have hF : ∀ (i : Nat) (c : Ch) W, (sortCh l)[i]? = some c → Turned (fun _ => False) w W → Calls Try.prog 20 #[.slice a l.length cap, .int .u32 (c.1 : Nat)] W fun e w' => e = .returned (.tuple #[.string c.2, .bool true]) ∧ Turned (fun _ => False) W w' := fun i c W hc ht => by
      have := find_any a cap l c.1 W (h.turned ht)
      rw [findCh_in l c (by simpa using hnd) ((sortCh_perm l).mem_iff.1 (List.mem_of_getElem? hc))] at this
      exact this
    have hRs := (built_sorted l hbe).1
    have hln := sortCh_length l
    generalize built l = s at *
    obtain ⟨L, hL⟩ : ∃ L, L = l.length := ⟨_, rfl⟩
    rw [← hL] at hB hPl hF hln ⊢
    have HL : Hid (L ≤ 16) := (by omega : L ≤ 16)
    have HLN : Hid ((sortCh l).length = L ∧ Rising (sortCh l)) := ⟨hln, hRs⟩
    have FB : Hid (∀ W, Turned (fun _ => False) w W → Calls Try.prog 17 #[.slice a L cap] W fun e w' => e = .returned (.tuple #[.string s, .int .i64 0]) ∧ Turned (fun _ => False) W w') := hB
    have PL : Hid (∀ W, Calls Try.prog 29 #[.string s] W fun e w' => Turned (fun _ => False) W w' ∧ ∃ v, e = .returned (.tuple #[v, .int .i64 0]) ∧ Sl w' (fun b => W.heap.size ≤ b) 31 2 v (ccells (sortCh l)) L) := hPl
    have FF : Hid (∀ (i : Nat) (c : Ch) W, (sortCh l)[i]? = some c → Turned (fun _ => False) w W → Calls Try.prog 20 #[.slice a L cap, .int .u32 (c.1 : Nat)] W fun e w' => e = .returned (.tuple #[.string c.2, .bool true]) ∧ Turned (fun _ => False) W w') := hF
    clear hB hPl hF hln hRs hnd hb3 hbz hpb hsm hbv hbe h hL
    go_enter Try.func9, Try.ntmps9
    go_wp2_with (first
      | (go_at_call 15; (with_reducible refine hh.mono ?_); rintro e w1 ⟨rfl, ht1⟩; have T1 : Hid (Turned (fun _ => False) w w1) := ht1; have h17 := FB.out w1 ht1; clear ht1)
      | (go_at_call 17; (with_reducible refine h17.mono ?_); rintro e w2 ⟨rfl, ht2⟩; have T2 : Hid (Turned (fun _ => False) w w2) := T1.out.trans ht2 (fun _ _ q => q); have h29 := PL.out w2; clear ht2 h17)
      | (go_at_call 29; (with_reducible refine h29.mono ?_); rintro e w3 ⟨ht3, v3, rfl, hs3⟩; obtain ⟨a3, cap3, rfl, -, -⟩ := hs3.value; have T3 : Hid (Turned (fun _ => False) w w3 ∧ Sl w3 (fun b => w2.heap.size ≤ b) 31 2 (.slice a3 L cap3) (ccells (sortCh l)) L) := ⟨T2.out.trans ht3 (fun _ _ q => q), hs3⟩; clear ht3 h29 hs3))
    go_loopg [41] L (fun g i wr => BkRel w3 L g i wr)
    case atStart => exact ⟨0, by omega, rfl, Turned.refl _ _⟩
    case round =>
      obtain ⟨i, hig, rfl, htr⟩ := hrel
      have G : Hid (i + gk = L) := hig
      have TR : Hid (Turned (fun _ => False) w3 wr) := htr
      clear hig htr
      by_cases hlt : i < L
      · obtain ⟨c, hc⟩ : ∃ c, (sortCh l)[i]? = some c := ⟨_, List.getElem?_eq_getElem (by rw [HLN.out.1]; exact hlt)⟩
        have hslr := T3.out.2.turned TR.out fun _ _ q => q
        obtain ⟨g, off, cp, hv, -, -, -, hcl, -, hgl⟩ := hslr.opens (by omega)
        injection hv with e1 e2 e3
        subst e1
        subst e3
        have c0 := (hcl (i * 2) (by omega)).trans (ccells_get _ i c hc).1
        have c1 := (hcl (i * 2 + 1) (by omega)).trans (ccells_get _ i c hc).2
        rw [← Nat.add_assoc] at c1
        have HC2 : Hid ((sortCh l)[i]? = some c) := hc
        have hff := FF.out i c (wr.alloc (.cells #[.int .u32 (c.1 : Nat), .string c.2] 31)) hc ((T3.out.1.trans TR.out fun _ _ q => q).new _)
        have hcell : ∀ w5, Turned (fun _ => False) (wr.alloc (.cells #[.int .u32 (c.1 : Nat), .string c.2] 31)) w5 → w5.cell? ⟨wr.heap.size, 0, none⟩ = some (.int .u32 (c.1 : Nat)) ∧ w5.cell? ⟨wr.heap.size, 1, none⟩ = some (.string c.2) ∧ wr.heap.size < w5.heap.size ∧ g < w5.heap.size := fun w5 t5 => by
          have hz : (wr.alloc (.cells #[.int .u32 (c.1 : Nat), .string c.2] 31)).heap.size = wr.heap.size + 1 := by simp
          have := t5.size
          refine ⟨?_, ?_, by omega, by omega⟩
          · rw [World.cell?_of_block (w' := w5) (t5.block wr.heap.size (by omega) fun q => q)]
            exact cell_of (heap_alloc_last wr _) 0 _ rfl
          · rw [World.cell?_of_block (w' := w5) (t5.block wr.heap.size (by omega) fun q => q)]
            exact cell_of (heap_alloc_last wr _) 1 _ rfl
        have HCE : Hid (∀ w5, Turned (fun _ => False) (wr.alloc (.cells #[.int .u32 (c.1 : Nat), .string c.2] 31)) w5 → w5.cell? ⟨wr.heap.size, 0, none⟩ = some (.int .u32 (c.1 : Nat)) ∧ w5.cell? ⟨wr.heap.size, 1, none⟩ = some (.string c.2) ∧ wr.heap.size < w5.heap.size ∧ g < w5.heap.size) := hcell
        have HCLr : Hid (∀ j, j < L * 2 → wr.cell? ⟨g, off + j, none⟩ = (ccells (sortCh l))[j]?) := hcl
        have HGL : Hid (g < wr.heap.size) := hgl
        clear hcl hcell hc hslr e2
        by_cases hi0 : i = 0
        · subst hi0
          simp only [Nat.zero_mul, Nat.add_zero] at c0 c1
          go_wp2_with (go_at_call 20; (with_reducible refine hff.mono ?_); rintro e w5 ⟨rfl, ht5⟩; obtain ⟨f0, f1, f2, f3⟩ := HCE.out w5 ht5; have T5 : Hid (Turned (fun _ => False) wr w5) := (Turned.alloc (fun _ => False) wr _).trans ht5 (fun _ _ q => q); clear ht5)
          go_region
          all_goals go_wp2
          all_goals
            go_roundg (gk - 1)
            case measure => have := G.out; omega
            case rel => exact ⟨1, by have := G.out; omega, by rfl, (TR.out.trans T5.out fun _ _ q => q).draw⟩
        · obtain ⟨j, rfl⟩ : ∃ j, i = j + 1 := ⟨i - 1, by omega⟩
          obtain ⟨d, hd0⟩ : ∃ d, (sortCh l)[j]? = some d := ⟨_, List.getElem?_eq_getElem (by rw [HLN.out.1]; omega)⟩
          have hlt3 : j < L := by omega
          have hdc : d.1 < c.1 := by
            obtain ⟨y1, z1⟩ := List.getElem?_eq_some_iff.1 hd0
            obtain ⟨y2, z2⟩ := List.getElem?_eq_some_iff.1 HC2.out
            have := List.pairwise_iff_getElem.1 HLN.out.2 j (j + 1) y1 y2 (by omega)
            rw [z1, z2] at this
            exact this
          have hd7 : decide ((c.1 : Int) ≤ (d.1 : Int)) = false := by simp; omega
          have hd8 : decide (c.1 ≤ d.1) = false := by simp; omega
          have hd9 : decide ((0 : Int) < (j : Int) + 1) = true := by rw [decide_eq_true_iff]; omega
          have hwm : wrap64 (j : Int) = (j : Int) := by have := HL.out; simp [wrap64]; omega
          have dj := (HCLr.out (j * 2) (by omega)).trans (ccells_get _ j d hd0).1
          have DJ : Hid (∀ w5, Turned (fun _ => False) wr w5 → w5.cell? ⟨g, off + j * 2, none⟩ = some (.int .u32 (d.1 : Nat))) := fun w5 t5 => by
            rw [World.cell?_of_block (w' := w5) (t5.block g HGL.out fun q => q)]; exact dj
          clear hd0 hdc dj hi0
          go_wp2_with (go_at_call 20; (with_reducible refine hff.mono ?_); rintro e w5 ⟨rfl, ht5⟩; obtain ⟨f0, f1, f2, f3⟩ := HCE.out w5 ht5; have T5 : Hid (Turned (fun _ => False) wr w5) := (Turned.alloc (fun _ => False) wr _).trans ht5 (fun _ _ q => q); have d5 := DJ.out w5 T5.out; clear ht5)
          go_region
          all_goals go_wp2
          all_goals
            go_roundg (gk - 1)
            case measure => have := G.out; omega
            case rel => exact ⟨j + 1 + 1, by have := G.out; omega, by have := HL.out; simp [wrap64]; omega, (TR.out.trans T5.out fun _ _ q => q).draw⟩
      · have hi : i = L := by have := G.out; omega
        subst hi
        clear hlt
        go_wp2_with (first | (go_at_call 31; (with_reducible refine (hse _).mono ?_); rintro e wa ⟨rfl, hta⟩; have hse2 := hse; clear hse) | (go_at_call 31; (with_reducible refine (hse2 _).mono ?_); rintro e wd ⟨rfl, htd⟩) | (go_at_call 29; (with_reducible refine (hps _).mono ?_); rintro e wb ⟨htb, vb, rfl, hsb⟩; obtain ⟨ab, capb, rfl, -, -⟩ := hsb.value; have hbb := HBM.out wb _ ab capb hsb; clear hsb) | (go_at_call 17; (with_reducible refine hbb.mono ?_); rintro e wc ⟨rfl, htc⟩))
        go_ret
        exact ⟨rfl, ((((T3.out.1.trans TR.out fun _ _ q => q).trans hta fun _ _ q => q).trans htb fun _ _ q => q).trans htc fun _ _ q => q).trans htd fun _ _ q => q⟩
  · have hbv : buildV l = .tuple #[.string ⟨#[]⟩, .int .i64 (buildErr l : Nat)] := by unfold buildV; rw [if_neg hbe]
    rw [hbv] at hB
    have hd5 : ((buildErr l : Int) == 0) = false := by simp; omega
    generalize buildErr l = be at *
    generalize l.length = L at *
    have FB : Hid (∀ W, Turned (fun _ => False) w W → Calls Try.prog 17 #[.slice a L cap] W fun e w' => e = .returned (.tuple #[.string ⟨#[]⟩, .int .i64 (be : Nat)]) ∧ Turned (fun _ => False) W w') := hB
    clear hB hbv hbe h
    go_enter Try.func9, Try.ntmps9
    go_wp2_with (first | (go_at_call 15; (with_reducible refine hh.mono ?_); rintro e w1 ⟨rfl, ht1⟩; have T1 : Hid (Turned (fun _ => False) w w1) := ht1; have h17 := FB.out w1 ht1; clear ht1) | (go_at_call 17; (with_reducible refine h17.mono ?_); rintro e w2 ⟨rfl, ht2⟩; have T2 : Hid (Turned (fun _ => False) w w2) := T1.out.trans ht2 (fun _ _ q => q); clear ht2 h17) | (go_at_call 31; (with_reducible refine (hse _).mono ?_); rintro e wa ⟨rfl, hta⟩; have hse2 := hse; clear hse) | (go_at_call 31; (with_reducible refine (hse2 _).mono ?_); rintro e wd ⟨rfl, htd⟩) | (go_at_call 29; (with_reducible refine (hps _).mono ?_); rintro e wb ⟨htb, vb, rfl, hsb⟩; obtain ⟨ab, capb, rfl, -, -⟩ := hsb.value; have hbb := HBM.out wb _ ab capb hsb; clear hsb) | (go_at_call 17; (with_reducible refine hbb.mono ?_); rintro e wc ⟨rfl, htc⟩))
    go_ret
    exact ⟨rfl, (((T2.out.trans hta fun _ _ q => q).trans htb fun _ _ q => q).trans htc fun _ _ q => q).trans htd fun _ _ q => q⟩

theorem back_any (a : Option Addr) (cap : Nat) (l : List Ch) (t : ByteArray) (w : World) (h : ChIs w a cap l) (hs : t.size ≤ 140737488355328) :
    Calls Try.prog 9 #[.slice a l.length cap, .string t] w fun e w' => e = .returned (.bool true) ∧ Turned (fun _ => False) w w' := by
  by_cases hb : 4194304 < t.size
  · exact back_big a cap l t w h hs hb
  · cases hR : parseR (sealed t) with
    | error k => exact back_err a cap l t w h hs hb k hR
    | ok m => exact back_ok a cap l t w h hs hb m hR
end Go.Proofs.Ytfeljngmidhajaa
