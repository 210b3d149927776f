/- The search for a chunk whose ID stands before: slices.ContainsFunc with Build's own test. -/
import Derived.Test.YtfeljngmidhajaaRfind
namespace Go.Proofs.Ytfeljngmidhajaa
open Go.RowKit Go.Mine

abbrev chv (c : Ch) : Value := .agg #[.int .u32 (c.1 : Nat), .string c.2]

set_option maxRecDepth 100000 in
/-- Build's test: has the chunk the ID that stands in the cell at x? -/
theorem same_any (c d : Ch) (x : Nat) (w : World) (hx : w.cell? ⟨x, 0, none⟩ = some (.int .u32 (d.1 : Nat))) :
    Calls Try.prog 38 #[chv c, pt x] w fun e w' => e = .returned (.bool (decide (c.1 = d.1))) ∧ Turned (fun _ => False) w w' := by
  have hlt := lt_of_cell hx
  have he : decide (c.1 = d.1) = decide ((c.1 : Int) = (d.1 : Int)) := by
    have : (c.1 = d.1) = ((c.1 : Int) = (d.1 : Int)) := by apply propext; omega
    simp only [this]
  rw [he]
  clear he
  go_enter Try.func38, Try.ntmps38
  go_wp2
  go_ret
  exact ⟨by rfl, Turned.alloc _ _ _⟩

theorem chIs_any {w : World} {a : Option Addr} {cap : Nat} {l : List Ch} (h : ChIs w a cap l) (j : Nat) (c : Ch) (hc : l[j]? = some c) :
    ∃ b off, a = some ⟨b, off, none⟩ ∧ b < w.heap.size ∧ w.cell? ⟨b, off + j * 2, none⟩ = some (.int .u32 (c.1 : Nat)) ∧ w.cell? ⟨b, off + j * 2 + 1, none⟩ = some (.string c.2) := by
  have hj := (List.getElem?_eq_some_iff.1 hc).1
  obtain ⟨b, off, h1, h2, h3⟩ := h.2.2.2 (by omega)
  exact ⟨b, off, h1, h2, (h3 j c hc).1, (h3 j c hc).2⟩

def hasCh (l : List Ch) (id : Nat) : Bool := l.any (fun c => decide (c.1 = id))

def IdxRel (w : World) (l : List Ch) (id : Nat) (g : Nat) (i : Value) (wr : World) : Prop :=
  ∃ j : Nat, j + g = l.length ∧ i = .int .i64 j ∧ (∀ t d, t < j → l[t]? = some d → d.1 ≠ id) ∧ Turned (fun _ => False) w wr

def IdxPost (w : World) (l : List Ch) (id : Nat) (e : Ending) (w' : World) : Prop :=
  Turned (fun _ => False) w w' ∧ ((hasCh l id = false ∧ e = .returned (.int .i64 (-1))) ∨ (hasCh l id = true ∧ ∃ j : Nat, e = .returned (.int .i64 j)))

set_option maxRecDepth 100000 in
set_option maxHeartbeats 1000000 in
theorem indexFunc_any (a : Option Addr) (cap x : Nat) (l : List Ch) (d : Ch) (w : World) (h : ChIs w a cap l) (hx : w.cell? ⟨x, 0, none⟩ = some (.int .u32 (d.1 : Nat))) :
    Calls Try.prog 72 #[.slice a l.length cap, .func (.func 38) #[] #[pt x]] w (IdxPost w l d.1) := by
  have H : Hid (ChIs w a cap l) := h
  have HX : Hid (w.cell? ⟨x, 0, none⟩ = some (.int .u32 (d.1 : Nat))) := hx
  obtain ⟨L, hL⟩ : ∃ L, L = l.length := ⟨_, rfl⟩
  have HL : Hid (L = l.length) := hL
  rw [← hL]
  have hcap : Hid (L ≤ 9223372036854775807) := (by rw [hL]; have := h.1; have := h.2.1; simp only [maxLen] at this; omega : L ≤ 9223372036854775807)
  clear h hL hx
  go_enter Try.func72, Try.ntmps72
  go_wp2
  have HS : Hid (IdxRel w l d.1 L (.int .i64 0) w) := ⟨0, by rw [HL.out, Nat.zero_add], rfl, fun t d ht => by omega, Turned.refl _ _⟩
  go_loopg [8] L (fun g i wr => IdxRel w l d.1 g i wr)
  case atStart => exact HS.out
  case round =>
    obtain ⟨j, hjg, rfl, hno, ht⟩ := hrel
    have N : Hid (∀ t e, t < j → l[t]? = some e → e.1 ≠ d.1) := hno
    have T : Hid (Turned (fun _ => False) w wr) := ht
    have G : Hid (j + gk = l.length) := hjg
    clear hno ht hjg HS
    by_cases hlt : j < L
    · obtain ⟨c, hc⟩ : ∃ c, l[j]? = some c := ⟨_, List.getElem?_eq_getElem (by rw [← HL.out]; exact hlt)⟩
      obtain ⟨b, off, rfl, hbw, c0, c1⟩ := chIs_any (H.out.turned T.out) j c hc
      have hw : wrap64 ((j : Int) + 1) = ((j + 1 : Nat) : Int) := by have := hcap.out; simp [wrap64]; omega
      have HW : Hid (wrap64 ((j : Int) + 1) = ((j + 1 : Nat) : Int)) := hw
      have C : Hid (l[j]? = some c) := hc
      have hs : Calls Try.prog 38 #[chv c, pt x] wr _ := same_any c d x wr (by rw [World.cell?_of_block (w' := wr) (T.out.block x (lt_of_cell HX.out) fun q => q)]; exact HX.out)
      clear hc hw
      by_cases hid : c.1 = d.1
      · rw [decide_eq_true hid] at hs
        have HI : Hid (c.1 = d.1) := hid
        clear hid
        go_wp2_with (go_at_call 38; (with_reducible refine hs.mono ?_); rintro e w2 ⟨rfl, ht2⟩)
        go_ret
        refine ⟨T.out.trans ht2 fun _ _ q => q, .inr ⟨?_, j, rfl⟩⟩
        unfold hasCh
        rw [List.any_eq_true]
        exact ⟨c, List.mem_of_getElem? C.out, by simpa using HI.out⟩
      · rw [decide_eq_false hid] at hs
        go_wp2_with (go_at_call 38; (with_reducible refine hs.mono ?_); rintro e w2 ⟨rfl, ht2⟩)
        go_roundg (gk - 1)
        case measure => have := G.out; have := HL.out; omega
        case rel =>
          refine ⟨j + 1, by have := G.out; have := HL.out; omega, by rw [HW.out], fun t e ht hd => ?_, T.out.trans ht2 fun _ _ q => q⟩
          rcases Nat.lt_or_eq_of_le (Nat.le_of_lt_succ ht) with q | q
          · exact N.out t e q hd
          · rw [q, C.out] at hd; obtain rfl := Option.some.inj hd; exact hid
    · go_wp2
      go_ret
      refine ⟨T.out, .inl ⟨?_, rfl⟩⟩
      unfold hasCh
      rw [List.any_eq_false]
      intro c hc
      obtain ⟨t, ht⟩ := List.getElem?_of_mem hc
      have := (List.getElem?_eq_some_iff.1 ht).1
      simpa using N.out t c (by have := HL.out; omega) ht

set_option maxRecDepth 100000 in
set_option maxHeartbeats 1000000 in
theorem containsFunc_any (a : Option Addr) (cap x : Nat) (l : List Ch) (d : Ch) (w : World) (h : ChIs w a cap l) (hx : w.cell? ⟨x, 0, none⟩ = some (.int .u32 (d.1 : Nat))) :
    Calls Try.prog 37 #[.slice a l.length cap, .func (.func 38) #[] #[pt x]] w fun e w' => e = .returned (.bool (hasCh l d.1)) ∧ Turned (fun _ => False) w w' := by
  have hi := indexFunc_any a cap x l d w h hx
  clear h hx
  generalize hb : hasCh l d.1 = b
  have B : Hid (hasCh l d.1 = b) := hb
  clear hb
  go_enter Try.func37, Try.ntmps37
  go_wp2_with fail
  refine hi.mono ?_
  rintro e w1 ⟨ht, ⟨h1, rfl⟩ | ⟨h1, j, rfl⟩⟩
  · rw [B.out] at h1
    subst h1
    go_wp2
    go_ret
    exact ⟨rfl, ht⟩
  · rw [B.out] at h1
    subst h1
    have hj : decide ((0 : Int) ≤ (j : Int)) = true := by simp
    go_wp2
    go_ret
    exact ⟨rfl, ht⟩
end Go.Proofs.Ytfeljngmidhajaa
