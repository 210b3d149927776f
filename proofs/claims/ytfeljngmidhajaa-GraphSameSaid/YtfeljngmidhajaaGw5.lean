/- Graph files: the walk of Check. -/
import Derived.Test.YtfeljngmidhajaaGw4
namespace Go.Proofs.Ytfeljngmidhajaa
open Go.RowKit Go.Mine

def CkRel (rows : List Rw) (base : Int) (w : World) (cs : Array Value) (g : Nat) (i : Value) (wr : World) : Prop :=
  ∃ j : Nat, j + g = rows.length ∧ i = .int .i64 j ∧ (∀ (t : Nat) (r : Rw), t < j → rows[t]? = some r → goodR r (base + t)) ∧ wr.heap[w.heap.size]? = some (.cells cs 40 (0, 0)) ∧ Turned (fun _ => False) w wr

theorem grErr_no {g : Gr} (h : ¬ goodG g) : grErr g = 1 := by unfold grErr; rw [if_neg h]
theorem grErr_yes {g : Gr} (h : goodG g) : grErr g = 0 := by unfold grErr; rw [if_pos h]
theorem stErr_iff (g : Gr) : stErr g.h g.p g.m = 0 ↔ goodS g := by
  unfold stErr goodS
  split
  · rename_i h; exact ⟨fun _ => h, fun _ => rfl⟩
  · rename_i h; exact ⟨fun q => by simp at q, fun q => absurd q h⟩
theorem stErr_le (h p m : Int) : stErr h p m = 0 ∨ stErr h p m = 1 := by unfold stErr; split <;> simp

set_option maxRecDepth 100000 in
set_option maxHeartbeats 2000000 in
theorem check_any (S : Nat → Prop) (a : Option Addr) (cap : Nat) (g : Gr) (w : World) (h : RwIs w S a cap g.rows) :
    Calls Try.prog 26 #[grv a cap g] w fun e w' => e = .returned (.int .i64 (grErr g : Nat)) ∧ Turned (fun _ => False) w w' := by
  obtain ⟨L, hL⟩ : ∃ L, L = g.rows.length := ⟨_, rfl⟩
  have HL : Hid (L = g.rows.length) := hL
  have hgr : ¬ (0 ≤ g.base ∧ g.base ≤ 65536 ∧ (L : Int) ≤ 65536 - g.base) → grErr g = 1 := fun q => grErr_no fun k => q (by have := k.1; unfold goodN at this; rw [← hL] at this; exact this)
  have NOT : Hid (∀ (t : Nat) (r : Rw), g.rows[t]? = some r → ¬ goodR r (g.base + t) → grErr g = 1) := by
    have q : ∀ (t : Nat) (r : Rw), g.rows[t]? = some r → ¬ goodR r (g.base + t) → grErr g = 1 := fun t r hr hn => grErr_no fun k => hn (k.2.2 t r hr)
    exact q
  have YES : Hid (goodN g → (∀ (t : Nat) (r : Rw), g.rows[t]? = some r → goodR r (g.base + t)) → grErr g = stErr g.h g.p g.m) := by
    have q : goodN g → (∀ (t : Nat) (r : Rw), g.rows[t]? = some r → goodR r (g.base + t)) → grErr g = stErr g.h g.p g.m := fun hn hr => by
      by_cases hs : goodS g
      · rw [(stErr_iff g).2 hs, grErr_yes ⟨hn, hs, hr⟩]
      · rw [grErr_no fun k => hs k.2.1]
        rcases stErr_le g.h g.p g.m with q | q
        · exact absurd ((stErr_iff g).1 q) hs
        · rw [q]
    exact q
  have GN : Hid ((0 ≤ g.base ∧ g.base ≤ 65536 ∧ (L : Int) ≤ 65536 - g.base) → goodN g) := by
    have q : (0 ≤ g.base ∧ g.base ≤ 65536 ∧ (L : Int) ≤ 65536 - g.base) → goodN g := fun k => by unfold goodN; rw [← hL]; exact k
    exact q
  unfold grv
  rw [← hL]
  have hLm : L ≤ 9223372036854775807 := by rw [hL]; have := h.1; have := h.2.1; simp only [maxLen] at this; omega
  have HI : Hid (RwIs w S a cap g.rows) := h
  have hst := fun W => settings_any g.h g.p g.m g.seed W
  generalize grErr g = R at *
  generalize goodN g = GN' at *
  generalize stErr g.h g.p g.m = F at *
  generalize g.rows = rows at *
  generalize g.base = base at *
  generalize g.h = gh at *
  generalize g.p = gp at *
  generalize g.m = gm at *
  generalize g.seed = seed at *
  clear h hL
  by_cases h1 : base < 0
  · have HR : Hid (R = 1) := hgr (by omega)
    have d1 : decide (base < 0) = true := decide_eq_true h1
    clear h1 hgr HL HI hst
    go_enter Try.func26, Try.ntmps26
    go_wp2
    go_ret
    exact ⟨by rw [HR.out]; rfl, Turned.alloc _ _ _⟩
  · have d1 : decide (base < 0) = false := decide_eq_false h1
    by_cases h2 : 65536 < base
    · have HR : Hid (R = 1) := hgr (by omega)
      have d2 : decide (65536 < base) = true := decide_eq_true h2
      clear h1 h2 hgr HL HI hst
      go_enter Try.func26, Try.ntmps26
      go_wp2
      go_ret
      exact ⟨by rw [HR.out]; rfl, Turned.alloc _ _ _⟩
    · have d2 : decide (65536 < base) = false := decide_eq_false h2
      have hb0 : 0 ≤ base := by omega
      have hb1 : base ≤ 65536 := by omega
      by_cases h3 : 65536 - base < (L : Int)
      · have HR : Hid (R = 1) := hgr (by omega)
        have d3 : decide (65536 - base < (L : Int)) = true := decide_eq_true h3
        clear h1 h2 h3 hgr HL HI hst
        go_enter Try.func26, Try.ntmps26
        go_wp2
        go_ret
        exact ⟨by rw [HR.out]; rfl, Turned.alloc _ _ _⟩
      · have d3 : decide (65536 - base < (L : Int)) = false := decide_eq_false h3
        have HN : Hid GN' := GN.out (by omega)
        have HB : Hid ((L : Int) ≤ 65536 - base) := (by omega : (L : Int) ≤ 65536 - base)
        clear h1 h2 h3 hgr GN
        have HS : Hid (CkRel rows base w #[.int .i64 base, .int .i64 gh, .int .i64 gp, .int .i64 gm, .int .u32 (seed : Nat), .slice a L cap] L (.int .i64 0) (w.alloc (.cells #[.int .i64 base, .int .i64 gh, .int .i64 gp, .int .i64 gm, .int .u32 (seed : Nat), .slice a L cap] 40))) :=
          ⟨0, by rw [HL.out, Nat.zero_add], rfl, fun t r q => by omega, heap_alloc_last w _, Turned.alloc _ _ _⟩
        go_enter Try.func26, Try.ntmps26
        go_wp2
        go_loopg [25] L (fun g i wr => CkRel rows base w #[.int .i64 base, .int .i64 gh, .int .i64 gp, .int .i64 gm, .int .u32 (seed : Nat), .slice a L cap] g i wr)
        case atStart => exact HS.out
        case round =>
          obtain ⟨j, hjg, rfl, hno, hblk, htr⟩ := hrel
          have N : Hid (∀ (t : Nat) (r : Rw), t < j → rows[t]? = some r → goodR r (base + t)) := hno
          have G : Hid (j + gk = rows.length) := hjg
          have T : Hid (Turned (fun _ => False) w wr) := htr
          have BK : Hid (wr.heap[w.heap.size]? = some (.cells #[.int .i64 base, .int .i64 gh, .int .i64 gp, .int .i64 gm, .int .u32 (seed : Nat), .slice a L cap] 40 (0, 0))) := hblk
          have hlw := lt_of_block hblk
          have k0 := cell_of hblk 0 _ rfl
          clear hno hjg HS hblk htr
          by_cases hlt : j < L
          · obtain ⟨r, hr⟩ : ∃ r, rows[j]? = some r := ⟨_, List.getElem?_eq_getElem (by rw [← HL.out]; exact hlt)⟩
            have hrok := HI.out.2.2.1 r (List.mem_of_getElem? hr)
            obtain ⟨b, off, rfl, hS, hbw, ra, rcap, hints, c0, c1, c2, c3, c4⟩ := rows_at (HI.out.turned T.out fun _ _ q => q) j r hr
            have C : Hid (rows[j]? = some r) := hr
            have hjb : (j : Int) < 65536 := by have := HB.out; omega
            have hgo := goodRow_any S ra rcap r (base + j) (wr.alloc (.cells #[.slice ra r.par.length rcap, .int .i64 r.tree, .int .i64 r.gen, .int .i64 r.state, .string r.bits] 61)) (hints.turned (Turned.alloc (fun _ => False) wr _) fun _ _ q => q) hrok
            have NB : Hid (b ≠ wr.heap.size ∧ w.heap.size ≠ wr.heap.size) := ⟨by omega, by omega⟩
            clear hr hrok hints
            by_cases hg : goodR r (base + j)
            · rw [goodRB_true hg] at hgo
              have HGD : Hid (goodR r (base + j)) := hg
              clear hg
              unfold rowv at hgo
              generalize r.par.length = pl at *
              generalize r.tree = rt at *
              generalize r.gen = rg at *
              generalize r.state = rs at *
              generalize r.bits = rb at *
              go_wp2_with (go_at_call 55; (with_reducible refine hgo.mono ?_); rintro e w2 ⟨rfl, ht2⟩)
              go_roundg (gk - 1)
              case measure => have := G.out; have := HL.out; omega
              case rel =>
                refine ⟨j + 1, by have := G.out; have := HL.out; omega, by simp, fun t e ht hd => ?_, ?_, (T.out.new _).trans ht2 fun _ _ q => q⟩
                · rcases Nat.lt_or_eq_of_le (Nat.le_of_lt_succ ht) with q | q
                  · exact N.out t e q hd
                  · subst q; rw [C.out] at hd; obtain rfl := Option.some.inj hd; exact HGD.out
                · rw [ht2.block _ (by simp; omega) fun q => q]
                  exact Go.Mine.heap_alloc_old BK.out
            · have HF : Hid (R = 1) := NOT.out j r C.out hg
              rw [goodRB_false hg] at hgo
              clear hg
              unfold rowv at hgo
              generalize r.par.length = pl at *
              generalize r.tree = rt at *
              generalize r.gen = rg at *
              generalize r.state = rs at *
              generalize r.bits = rb at *
              go_wp2_with (go_at_call 55; (with_reducible refine hgo.mono ?_); rintro e w2 ⟨rfl, ht2⟩)
              go_ret
              exact ⟨by rw [HF.out]; rfl, (T.out.new _).trans ht2 fun _ _ q => q⟩
          · have HF : Hid (R = F) := YES.out HN.out fun t r hr => N.out t r (by have := (List.getElem?_eq_some_iff.1 hr).1; have := HL.out; omega) hr
            have k1 := cell_of BK.out 1 _ rfl
            have k2 := cell_of BK.out 2 _ rfl
            have k3 := cell_of BK.out 3 _ rfl
            have k4 := cell_of BK.out 4 _ rfl
            go_wp2_with (go_at_call 56; (with_reducible refine (hst _).mono ?_); rintro e w2 ⟨rfl, ht2⟩)
            go_ret
            exact ⟨by rw [HF.out]; rfl, T.out.trans ht2 fun _ _ q => q⟩
end Go.Proofs.Ytfeljngmidhajaa
