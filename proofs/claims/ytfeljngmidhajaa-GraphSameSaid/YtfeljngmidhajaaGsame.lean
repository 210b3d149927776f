/- Graph files: the walk of the statement on Same. -/
import Derived.Test.YtfeljngmidhajaaGw16
namespace Go.Proofs.Ytfeljngmidhajaa
open Go.RowKit Go.Mine

theorem copy_rows {w : World} {S : Nat → Prop} {c : Nat} {a : Option Addr} {cap : Nat} {l : List Rw} {W : World} {T : Nat → Prop} (h : CopyIs w S c l) (h0 : RwIs W T a cap l) (hL : l.length ≤ 2199023255551) (hP : ∀ r ∈ l, r.par.length ≤ 17592186044415) : RwIs w S (some ⟨c, 0, none⟩) (l.length + 1) l := by
  refine h.rows (fun r hr => ⟨h0.2.2.1 r hr, ?_, by have := hP r hr; simp [maxLen]; omega⟩) (by simp [maxLen]; omega)
  obtain ⟨i, hi⟩ := List.getElem?_of_mem hr
  obtain ⟨g, off, -, -, -, a, cap, h1, -⟩ := rows_at h0 i r hi
  exact h1.2.2.1

set_option maxRecDepth 100000 in
set_option maxHeartbeats 4000000 in
theorem gsame_law (a b : Option Addr) (cap cap2 : Nat) (x y : Gr) (w : World) (hx : RwIs w (fun _ => True) a cap x.rows) (hy : RwIs w (fun _ => True) b cap2 y.rows) (hxL : x.rows.length ≤ 2199023255551) (hyL : y.rows.length ≤ 2199023255551)
    (hxP : ∀ r ∈ x.rows, r.par.length ≤ 17592186044415) (hyP : ∀ r ∈ y.rows, r.par.length ≤ 17592186044415) :
    Calls Try.prog 10 #[grv a cap x, grv b cap2 y] w fun e w' => e = .returned (.bool true) ∧ Turned (fun _ => False) w w' := by
  have f22 : ∀ W, Calls Try.prog 22 #[] W fun e w' => e = .returned (.bool true) ∧ Turned (fun _ => False) W w' := tells_any
  have F32 : Hid (∀ W, Turned (fun _ => False) w W → Calls Try.prog 32 #[grv a cap x, grv b cap2 y] W fun e w' => e = .returned (.bool (sameG x y)) ∧ Turned (fun _ => False) W w') := fun W q => gsame_any _ _ a b cap cap2 x y W (hx.turned q fun _ _ q => q) (hy.turned q fun _ _ q => q)
  have F33 : Hid (∀ W, Turned (fun _ => False) w W → Calls Try.prog 33 #[grv a cap x, grv b cap2 y] W fun e w' => e = .returned (.bool (sameG x y)) ∧ Turned (fun _ => False) W w') := fun W q => grsame_any _ _ a b cap cap2 x y W (hx.turned q fun _ _ q => q) (hy.turned q fun _ _ q => q)
  have FCX : Hid (∀ W, Turned (fun _ => False) w W → Calls Try.prog 23 #[grv a cap x] W fun e w' => ∃ c, e = .returned (grv (some ⟨c, 0, none⟩) (x.rows.length + 1) x) ∧ CopyIs w' (fun b => W.heap.size ≤ b) c x.rows ∧ Turned (fun _ => False) W w') := fun W q => gcopied_any _ a cap x W (hx.turned q fun _ _ q => q) hxL hxP
  have FCY : Hid (∀ W, Turned (fun _ => False) w W → Calls Try.prog 23 #[grv b cap2 y] W fun e w' => ∃ c, e = .returned (grv (some ⟨c, 0, none⟩) (y.rows.length + 1) y) ∧ CopyIs w' (fun b => W.heap.size ≤ b) c y.rows ∧ Turned (fun _ => False) W w') := fun W q => gcopied_any _ b cap2 y W (hy.turned q fun _ _ q => q) hyL hyP
  have FSX : Hid (∀ (W0 W : World) c, Turned (fun _ => False) w W → CopyIs W (fun b => W0.heap.size ≤ b) c x.rows → Calls Try.prog 32 #[grv a cap x, grv (some ⟨c, 0, none⟩) (x.rows.length + 1) x] W fun e w' => e = .returned (.bool true) ∧ Turned (fun _ => False) W w') := fun W0 W c q hc => by
    have := gsame_any _ _ a (some ⟨c, 0, none⟩) cap (x.rows.length + 1) x x W (hx.turned q fun _ _ q => q) (copy_rows hc hx hxL hxP)
    rw [(sameG_iff x x).2 rfl] at this
    exact this
  have FSY : Hid (∀ (W0 W : World) c, Turned (fun _ => False) w W → CopyIs W (fun b => W0.heap.size ≤ b) c y.rows → Calls Try.prog 32 #[grv b cap2 y, grv (some ⟨c, 0, none⟩) (y.rows.length + 1) y] W fun e w' => e = .returned (.bool true) ∧ Turned (fun _ => False) W w') := fun W0 W c q hc => by
    have := gsame_any _ _ b (some ⟨c, 0, none⟩) cap2 (y.rows.length + 1) y y W (hy.turned q fun _ _ q => q) (copy_rows hc hy hyL hyP)
    rw [(sameG_iff y y).2 rfl] at this
    exact this
  clear hx hy hxL hyL hxP hyP
  unfold grv at *
  generalize x.rows.length = LX at *
  generalize y.rows.length = LY at *
  generalize x.base = b1 at *
  generalize y.base = b2 at *
  generalize x.h = h1 at *
  generalize y.h = h2 at *
  generalize x.p = p1 at *
  generalize y.p = p2 at *
  generalize x.m = m1 at *
  generalize y.m = m2 at *
  generalize x.seed = s1 at *
  generalize y.seed = s2 at *
  generalize sameG x y = sb at *
  go_enter Try.func10, Try.ntmps10
  go_wp2
  have W2 : Hid (((w.alloc (.cells #[.int .i64 b1, .int .i64 h1, .int .i64 p1, .int .i64 m1, .int .u32 (s1 : Nat), .slice a LX cap] 40)).alloc (.cells #[.int .i64 b2, .int .i64 h2, .int .i64 p2, .int .i64 m2, .int .u32 (s2 : Nat), .slice b LY cap2] 40)).heap[w.heap.size]? = some (.cells #[.int .i64 b1, .int .i64 h1, .int .i64 p1, .int .i64 m1, .int .u32 (s1 : Nat), .slice a LX cap] 40 (0, 0)) ∧ ((w.alloc (.cells #[.int .i64 b1, .int .i64 h1, .int .i64 p1, .int .i64 m1, .int .u32 (s1 : Nat), .slice a LX cap] 40)).alloc (.cells #[.int .i64 b2, .int .i64 h2, .int .i64 p2, .int .i64 m2, .int .u32 (s2 : Nat), .slice b LY cap2] 40)).heap[w.heap.size + 1]? = some (.cells #[.int .i64 b2, .int .i64 h2, .int .i64 p2, .int .i64 m2, .int .u32 (s2 : Nat), .slice b LY cap2] 40 (0, 0)) ∧ Turned (fun _ => False) w ((w.alloc (.cells #[.int .i64 b1, .int .i64 h1, .int .i64 p1, .int .i64 m1, .int .u32 (s1 : Nat), .slice a LX cap] 40)).alloc (.cells #[.int .i64 b2, .int .i64 h2, .int .i64 p2, .int .i64 m2, .int .u32 (s2 : Nat), .slice b LY cap2] 40))) := by
    refine ⟨Go.Mine.heap_alloc_old (heap_alloc_last w _), ?_, ((Turned.refl _ _).new _).new _⟩
    have := heap_alloc_last (w.alloc (.cells #[.int .i64 b1, .int .i64 h1, .int .i64 p1, .int .i64 m1, .int .u32 (s1 : Nat), .slice a LX cap] 40)) (.cells #[.int .i64 b2, .int .i64 h2, .int .i64 p2, .int .i64 m2, .int .u32 (s2 : Nat), .slice b LY cap2] 40)
    simpa using this
  generalize hw2 : (w.alloc (.cells #[.int .i64 b1, .int .i64 h1, .int .i64 p1, .int .i64 m1, .int .u32 (s1 : Nat), .slice a LX cap] 40)).alloc (.cells #[.int .i64 b2, .int .i64 h2, .int .i64 p2, .int .i64 m2, .int .u32 (s2 : Nat), .slice b LY cap2] 40) = w2 at *
  clear hw2
  have KS : Hid (∀ W, Turned (fun _ => False) w2 W → Turned (fun _ => False) w W ∧ W.cell? ⟨w.heap.size, 0, none⟩ = some (.int .i64 b1) ∧ W.cell? ⟨w.heap.size, 1, none⟩ = some (.int .i64 h1) ∧ W.cell? ⟨w.heap.size, 2, none⟩ = some (.int .i64 p1) ∧ W.cell? ⟨w.heap.size, 3, none⟩ = some (.int .i64 m1) ∧ W.cell? ⟨w.heap.size, 4, none⟩ = some (.int .u32 (s1 : Nat)) ∧ W.cell? ⟨w.heap.size, 5, none⟩ = some (.slice a LX cap) ∧ W.cell? ⟨w.heap.size + 1, 0, none⟩ = some (.int .i64 b2) ∧ W.cell? ⟨w.heap.size + 1, 1, none⟩ = some (.int .i64 h2) ∧ W.cell? ⟨w.heap.size + 1, 2, none⟩ = some (.int .i64 p2) ∧ W.cell? ⟨w.heap.size + 1, 3, none⟩ = some (.int .i64 m2) ∧ W.cell? ⟨w.heap.size + 1, 4, none⟩ = some (.int .u32 (s2 : Nat)) ∧ W.cell? ⟨w.heap.size + 1, 5, none⟩ = some (.slice b LY cap2)) := fun W t => by
    have z1 := (t.block _ (lt_of_block W2.out.1) fun q => q).trans W2.out.1
    have z2 := (t.block _ (lt_of_block W2.out.2.1) fun q => q).trans W2.out.2.1
    exact ⟨W2.out.2.2.trans t fun _ _ q => q, cell_of z1 0 _ rfl, cell_of z1 1 _ rfl, cell_of z1 2 _ rfl, cell_of z1 3 _ rfl, cell_of z1 4 _ rfl, cell_of z1 5 _ rfl, cell_of z2 0 _ rfl, cell_of z2 1 _ rfl, cell_of z2 2 _ rfl, cell_of z2 3 _ rfl, cell_of z2 4 _ rfl, cell_of z2 5 _ rfl⟩
  have V0 : Turned (fun _ => False) w2 w2.drew := Turned.drew _ _
  have TO : Hid (∀ W, Turned (fun _ => False) w2 W → Turned (fun _ => False) w W) := fun W t => W2.out.2.2.trans t fun _ _ q => q
  cases sb
  all_goals
    go_region_held3 (fun W => Turned (fun _ => False) w W ∧ W.cell? ⟨w.heap.size, 0, none⟩ = some (.int .i64 b1) ∧ W.cell? ⟨w.heap.size, 1, none⟩ = some (.int .i64 h1) ∧ W.cell? ⟨w.heap.size, 2, none⟩ = some (.int .i64 p1) ∧ W.cell? ⟨w.heap.size, 3, none⟩ = some (.int .i64 m1) ∧ W.cell? ⟨w.heap.size, 4, none⟩ = some (.int .u32 (s1 : Nat)) ∧ W.cell? ⟨w.heap.size, 5, none⟩ = some (.slice a LX cap) ∧ W.cell? ⟨w.heap.size + 1, 0, none⟩ = some (.int .i64 b2) ∧ W.cell? ⟨w.heap.size + 1, 1, none⟩ = some (.int .i64 h2) ∧ W.cell? ⟨w.heap.size + 1, 2, none⟩ = some (.int .i64 p2) ∧ W.cell? ⟨w.heap.size + 1, 3, none⟩ = some (.int .i64 m2) ∧ W.cell? ⟨w.heap.size + 1, 4, none⟩ = some (.int .u32 (s2 : Nat)) ∧ W.cell? ⟨w.heap.size + 1, 5, none⟩ = some (.slice b LY cap2))
      (first | (exact KS.out _ (by assumption)) | go_keep)
      (first
        | (go_at_call 22; (with_reducible refine (f22 _).mono ?_); rintro e v1 ⟨rfl, hv⟩; have V1 : Turned (fun _ => False) w2 v1 := V0.trans hv (fun _ _ q => q); clear hv)
        | (go_at_call 32; (with_reducible refine (F32.out _ (TO.out _ V1)).mono ?_); rintro e v2 ⟨rfl, hv⟩; have V2 : Turned (fun _ => False) w2 v2 := V1.trans hv (fun _ _ q => q); clear hv)
        | (go_at_call 33; (with_reducible refine (F33.out _ (TO.out _ V2)).mono ?_); rintro e v3 ⟨rfl, hv⟩; have V3 : Turned (fun _ => False) w2 v3 := V2.trans hv (fun _ _ q => q); clear hv)
        | (go_at_call 23; (with_reducible refine (FCX.out _ (TO.out _ V3)).mono ?_); rintro e v4 ⟨c, rfl, hc, hv⟩; have V4 : Turned (fun _ => False) w2 v4 := V3.trans hv (fun _ _ q => q); have C4 := FSX.out v3 v4 c (TO.out _ V4) hc; clear hv hc)
        | (go_at_call 32; (with_reducible refine C4.mono ?_); rintro e v5 ⟨rfl, hv⟩; have V5 : Turned (fun _ => False) w2 v5 := V4.trans hv (fun _ _ q => q); clear hv)
        | (go_at_call 23; (with_reducible refine (FCY.out _ (TO.out _ V5)).mono ?_); rintro e v6 ⟨c', rfl, hc, hv⟩; have V6 : Turned (fun _ => False) w2 v6 := V5.trans hv (fun _ _ q => q); have C6 := FSY.out v5 v6 c' (TO.out _ V6) hc; clear hv hc)
        | (go_at_call 32; (with_reducible refine C6.mono ?_); rintro e v7 ⟨rfl, hv⟩; have V7 : Turned (fun _ => False) w2 v7 := V6.trans hv (fun _ _ q => q); clear hv))
    go_wp2
    go_ret
    exact ⟨rfl, TO.out _ V7⟩
end Go.Proofs.Ytfeljngmidhajaa
