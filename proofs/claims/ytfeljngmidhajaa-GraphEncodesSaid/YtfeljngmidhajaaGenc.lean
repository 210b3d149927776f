/- Graph files: the walk of the statement on Encode. -/
import Derived.Test.YtfeljngmidhajaaMe
namespace Go.Proofs.Ytfeljngmidhajaa
open Go.RowKit Go.Mine

theorem encG_form (g : Gr) : ∃ s e, encG g = .tuple #[.string s, .int .i64 e] := by
  unfold encG buildV
  split
  · split
    · exact ⟨_, _, rfl⟩
    · split
      · exact ⟨_, _, rfl⟩
      · exact ⟨_, _, rfl⟩
  · exact ⟨_, _, rfl⟩

set_option maxRecDepth 100000 in
set_option maxHeartbeats 4000000 in
theorem gencodes_law (a : Option Addr) (cap : Nat) (x : Gr) (w : World) (hx : RwIs w (fun _ => True) a cap x.rows) (hxL : x.rows.length ≤ 2199023255551) (hxP : ∀ r ∈ x.rows, r.par.length ≤ 17592186044415) (hok : GrOk x) :
    Calls Try.prog 5 #[grv a cap x] w fun e w' => e = .returned (.bool true) ∧ Turned (fun _ => False) w w' := by
  have f22 : ∀ W, Calls Try.prog 22 #[] W fun e w' => e = .returned (.bool true) ∧ Turned (fun _ => False) W w' := tells_any
  obtain ⟨s, ee, hV⟩ := encG_form x
  have FCX : Hid (∀ W, Turned (fun _ => False) w W → Calls Try.prog 23 #[grv a cap x] W fun e w' => ∃ c, e = .returned (grv (some ⟨c, 0, none⟩) (x.rows.length + 1) x) ∧ CopyIs w' (fun b => W.heap.size ≤ b) c x.rows ∧ Turned (fun _ => False) W w') := fun W q => gcopied_any _ a cap x W (hx.turned q fun _ _ q => q) hxL hxP
  have CRW : ∀ (W0 W : World) c, CopyIs W (fun b => W0.heap.size ≤ b) c x.rows → RwIs W (fun b => W0.heap.size ≤ b) (some ⟨c, 0, none⟩) (x.rows.length + 1) x.rows := fun W0 W c hc => copy_rows hc hx hxL hxP
  have F24 : Hid (∀ (W0 W : World) c, CopyIs W (fun b => W0.heap.size ≤ b) c x.rows → Calls Try.prog 24 #[grv (some ⟨c, 0, none⟩) (x.rows.length + 1) x] W fun e w' => e = .returned (.tuple #[.string s, .int .i64 ee]) ∧ Turned (fun _ => False) W w') := fun W0 W c hc => by
    have := encode_any _ _ _ x W (CRW W0 W c hc) hok
    rw [hV] at this
    exact this
  have F25 : Hid (∀ W, Turned (fun _ => False) w W → Calls Try.prog 25 #[grv a cap x] W fun e w' => e = .returned (.tuple #[.string s, .int .i64 ee]) ∧ Turned (fun _ => False) W w') := fun W q => by
    have := rencode_any _ a cap x W (hx.turned q fun _ _ q => q) hok
    rw [hV] at this
    exact this
  have F26 : Hid (∀ (W0 W : World) c, CopyIs W (fun b => W0.heap.size ≤ b) c x.rows → Calls Try.prog 26 #[grv (some ⟨c, 0, none⟩) (x.rows.length + 1) x] W fun e w' => e = .returned (.int .i64 (grErr x : Nat)) ∧ Turned (fun _ => False) W w') := fun W0 W c hc => check_any _ _ _ x W (CRW W0 W c hc)
  have F27 : Hid (∀ W, Turned (fun _ => False) w W → Calls Try.prog 27 #[grv a cap x] W fun e w' => e = .returned (.int .i64 (grErr x : Nat)) ∧ Turned (fun _ => False) W w') := fun W q => rcheck_any _ a cap x W (hx.turned q fun _ _ q => q)
  have F28 : Hid (∀ (W0 W : World) c, Turned (fun _ => False) w W → CopyIs W (fun b => W0.heap.size ≤ b) c x.rows → Calls Try.prog 28 #[grv (some ⟨c, 0, none⟩) (x.rows.length + 1) x, grv a cap x] W fun e w' => e = .returned (.bool true) ∧ Turned (fun _ => False) W w') := fun W0 W c q hc => gkept_any _ _ a cap c x W hc (hx.turned q fun _ _ q => q) hxL hxP
  clear hx hxL hxP hok hV CRW
  unfold grv at *
  generalize x.rows.length = L at *
  generalize x.rows = rows at *
  generalize x.base = b1 at *
  generalize x.h = h1 at *
  generalize x.p = p1 at *
  generalize x.m = m1 at *
  generalize x.seed = s1 at *
  generalize grErr x = ge at *
  have he1 := int_eqb (ge : Int) (ge : Int) rfl
  have he2 := int_eqb ee ee rfl
  go_enter Try.func5, Try.ntmps5
  go_wp2_with (first
    | (go_at_call 22; (with_reducible refine (f22 _).mono ?_); rintro e w1 ⟨rfl, hv⟩; have W1 : Hid (w1.heap[w.heap.size]? = some (.cells #[.int .i64 b1, .int .i64 h1, .int .i64 p1, .int .i64 m1, .int .u32 (s1 : Nat), .slice a L cap] 40 (0, 0)) ∧ Turned (fun _ => False) w w1) := ⟨(hv.block _ (by simp) fun q => q).trans (heap_alloc_last w _), (Turned.alloc _ _ _).trans hv fun _ _ q => q⟩; have y0 := cell_of W1.out.1 0 _ rfl; have y1 := cell_of W1.out.1 1 _ rfl; have y2 := cell_of W1.out.1 2 _ rfl; have y3 := cell_of W1.out.1 3 _ rfl; have y4 := cell_of W1.out.1 4 _ rfl; have y5 := cell_of W1.out.1 5 _ rfl; have yl := lt_of_block W1.out.1; have h23 := FCX.out w1 W1.out.2; clear hv)
    | (go_at_call 23; (with_reducible refine h23.mono ?_); rintro e w2 ⟨c, rfl, hc, hv⟩; have W2 : Hid (w2.heap[w.heap.size]? = some (.cells #[.int .i64 b1, .int .i64 h1, .int .i64 p1, .int .i64 m1, .int .u32 (s1 : Nat), .slice a L cap] 40 (0, 0)) ∧ Turned (fun _ => False) w w2 ∧ CopyIs w2 (fun b => w1.heap.size ≤ b) c rows) := ⟨(hv.block _ (lt_of_block W1.out.1) fun q => q).trans W1.out.1, W1.out.2.trans hv (fun _ _ q => q), hc⟩; have h24 := F24.out w1 (w2.alloc (.cells #[.int .i64 b1, .int .i64 h1, .int .i64 p1, .int .i64 m1, .int .u32 (s1 : Nat), .slice (some ⟨c, 0, none⟩) L (L + 1)] 40)) c (hc.turned (Turned.alloc (fun _ => False) w2 _) fun _ _ q => q); clear hv hc h23 y0 y1 y2 y3 y4 y5 yl)
    | (go_at_call 24; (with_reducible refine h24.mono ?_); rintro e w4 ⟨rfl, hv⟩; have W4 : Hid (w4.heap[w.heap.size]? = some (.cells #[.int .i64 b1, .int .i64 h1, .int .i64 p1, .int .i64 m1, .int .u32 (s1 : Nat), .slice a L cap] 40 (0, 0)) ∧ w4.heap[w2.heap.size]? = some (.cells #[.int .i64 b1, .int .i64 h1, .int .i64 p1, .int .i64 m1, .int .u32 (s1 : Nat), .slice (some ⟨c, 0, none⟩) L (L + 1)] 40 (0, 0)) ∧ Turned (fun _ => False) w2 w4) := ⟨(hv.block _ (by have := lt_of_block W2.out.1; simp; omega) fun q => q).trans (Go.Mine.heap_alloc_old W2.out.1), (hv.block _ (by simp) fun q => q).trans (heap_alloc_last w2 _), (Turned.alloc _ _ _).trans hv fun _ _ q => q⟩; have y0 := cell_of W4.out.1 0 _ rfl; have y1 := cell_of W4.out.1 1 _ rfl; have y2 := cell_of W4.out.1 2 _ rfl; have y3 := cell_of W4.out.1 3 _ rfl; have y4 := cell_of W4.out.1 4 _ rfl; have y5 := cell_of W4.out.1 5 _ rfl; have yl := lt_of_block W4.out.1; have h25 := F25.out w4 (W2.out.2.1.trans W4.out.2.2 fun _ _ q => q); clear hv h24)
    | (go_at_call 25; (with_reducible refine h25.mono ?_); rintro e w5 ⟨rfl, hv⟩; have W5 : Hid (w5.heap[w.heap.size]? = some (.cells #[.int .i64 b1, .int .i64 h1, .int .i64 p1, .int .i64 m1, .int .u32 (s1 : Nat), .slice a L cap] 40 (0, 0)) ∧ w5.heap[w2.heap.size]? = some (.cells #[.int .i64 b1, .int .i64 h1, .int .i64 p1, .int .i64 m1, .int .u32 (s1 : Nat), .slice (some ⟨c, 0, none⟩) L (L + 1)] 40 (0, 0)) ∧ Turned (fun _ => False) w2 w5) := ⟨(hv.block _ (lt_of_block W4.out.1) fun q => q).trans W4.out.1, (hv.block _ (lt_of_block W4.out.2.1) fun q => q).trans W4.out.2.1, W4.out.2.2.trans hv fun _ _ q => q⟩; clear hv h25 y0 y1 y2 y3 y4 y5 yl))
  have TO : Hid (∀ W, Turned (fun _ => False) w5 W → Turned (fun _ => False) w W ∧ CopyIs W (fun b => w1.heap.size ≤ b) c rows) := fun W t => ⟨(W2.out.2.1.trans W5.out.2.2 fun _ _ q => q).trans t fun _ _ q => q, (W2.out.2.2.turned W5.out.2.2 fun _ _ q => q).turned t fun _ _ q => q⟩
  have KS : Hid (∀ W, Turned (fun _ => False) w5 W → Turned (fun _ => False) w5 W ∧ W.cell? ⟨w2.heap.size, 0, none⟩ = some (.int .i64 b1) ∧ W.cell? ⟨w2.heap.size, 1, none⟩ = some (.int .i64 h1) ∧ W.cell? ⟨w2.heap.size, 2, none⟩ = some (.int .i64 p1) ∧ W.cell? ⟨w2.heap.size, 3, none⟩ = some (.int .i64 m1) ∧ W.cell? ⟨w2.heap.size, 4, none⟩ = some (.int .u32 (s1 : Nat)) ∧ W.cell? ⟨w2.heap.size, 5, none⟩ = some (.slice (some ⟨c, 0, none⟩) L (L + 1)) ∧ W.cell? ⟨w.heap.size, 0, none⟩ = some (.int .i64 b1) ∧ W.cell? ⟨w.heap.size, 1, none⟩ = some (.int .i64 h1) ∧ W.cell? ⟨w.heap.size, 2, none⟩ = some (.int .i64 p1) ∧ W.cell? ⟨w.heap.size, 3, none⟩ = some (.int .i64 m1) ∧ W.cell? ⟨w.heap.size, 4, none⟩ = some (.int .u32 (s1 : Nat)) ∧ W.cell? ⟨w.heap.size, 5, none⟩ = some (.slice a L cap)) := fun W t => by
    have z1 := (t.block _ (lt_of_block W5.out.2.1) fun q => q).trans W5.out.2.1
    have z2 := (t.block _ (lt_of_block W5.out.1) fun q => q).trans W5.out.1
    exact ⟨t, cell_of z1 0 _ rfl, cell_of z1 1 _ rfl, cell_of z1 2 _ rfl, cell_of z1 3 _ rfl, cell_of z1 4 _ rfl, cell_of z1 5 _ rfl, cell_of z2 0 _ rfl, cell_of z2 1 _ rfl, cell_of z2 2 _ rfl, cell_of z2 3 _ rfl, cell_of z2 4 _ rfl, cell_of z2 5 _ rfl⟩
  have V0 : Turned (fun _ => False) w5 w5.drew := Turned.drew _ _
  go_region_held3 (fun W => Turned (fun _ => False) w5 W ∧ W.cell? ⟨w2.heap.size, 0, none⟩ = some (.int .i64 b1) ∧ W.cell? ⟨w2.heap.size, 1, none⟩ = some (.int .i64 h1) ∧ W.cell? ⟨w2.heap.size, 2, none⟩ = some (.int .i64 p1) ∧ W.cell? ⟨w2.heap.size, 3, none⟩ = some (.int .i64 m1) ∧ W.cell? ⟨w2.heap.size, 4, none⟩ = some (.int .u32 (s1 : Nat)) ∧ W.cell? ⟨w2.heap.size, 5, none⟩ = some (.slice (some ⟨c, 0, none⟩) L (L + 1)) ∧ W.cell? ⟨w.heap.size, 0, none⟩ = some (.int .i64 b1) ∧ W.cell? ⟨w.heap.size, 1, none⟩ = some (.int .i64 h1) ∧ W.cell? ⟨w.heap.size, 2, none⟩ = some (.int .i64 p1) ∧ W.cell? ⟨w.heap.size, 3, none⟩ = some (.int .i64 m1) ∧ W.cell? ⟨w.heap.size, 4, none⟩ = some (.int .u32 (s1 : Nat)) ∧ W.cell? ⟨w.heap.size, 5, none⟩ = some (.slice a L cap))
    (first | (exact KS.out _ (by assumption)) | go_keep)
    (first
      | (go_at_call 26; (with_reducible refine (F26.out w1 _ c (TO.out _ V0).2).mono ?_); rintro e v1 ⟨rfl, hv⟩; have V1 : Turned (fun _ => False) w5 v1 := V0.trans hv (fun _ _ q => q); clear hv)
      | (go_at_call 27; (with_reducible refine (F27.out _ (TO.out _ V1).1).mono ?_); rintro e v2 ⟨rfl, hv⟩; have V2 : Turned (fun _ => False) w5 v2 := V1.trans hv (fun _ _ q => q); clear hv)
      | (go_at_call 28; (with_reducible refine (F28.out w1 _ c (TO.out _ V2).1 (TO.out _ V2).2).mono ?_); rintro e v3 ⟨rfl, hv⟩; have V3 : Turned (fun _ => False) w5 v3 := V2.trans hv (fun _ _ q => q); clear hv))
  go_wp2
  go_ret
  exact ⟨rfl, (TO.out v3 V3).1⟩
end Go.Proofs.Ytfeljngmidhajaa
