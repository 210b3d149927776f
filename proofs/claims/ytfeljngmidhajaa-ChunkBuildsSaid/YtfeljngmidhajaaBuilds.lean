/- ChunkBuilds answers true for every list of chunks, and leaves all memory that was there as it was. No conditions. -/
import Derived.Test.YtfeljngmidhajaaRows
import Derived.Test.YtfeljngmidhajaaRoom
import Derived.Test.YtfeljngmidhajaaSame
import Derived.Test.YtfeljngmidhajaaArgC
namespace Go.Proofs.Ytfeljngmidhajaa.chunkBuilds
open Go.ChangeShapes Go.WideShapes Go.ChangeAt Go.RowKit Go.Deep Go.Mine Go.Proofs.Ytfeljngmidhajaa

theorem eql_mark (w : World) : (binOp .eql 31 (.agg #[.int .u32 99, .string ⟨#[]⟩]) (.agg #[.int .u32 99, .string ⟨#[]⟩])).run Try.prog w = .ok (.bool true) w := by
  simp [go_sem, Try.underlying31, Try.underlying29, Try.underlying9]

set_option maxRecDepth 100000 in
set_option maxHeartbeats 1000000 in
theorem builds_any (a : Option Addr) (cap : Nat) (l : List Ch) (w : World) (h : ChIs w a cap l) (hnil : a = none → cap = 0) (hcap : cap * 24 ≤ 140737488355328) :
    Calls Try.prog 3 #[.slice a l.length cap] w fun e w' => e = .returned (.bool true) ∧ Turned (fun _ => False) w w' := by
  have hh := holds_any w
  have H1 := fun W (ht : Turned (fun _ => False) w W) => copied_any a cap l W (h.turned ht) hnil hcap
  have H2 := fun W (ht : Turned (fun _ => False) w W) => rbuild_any a cap l W (h.turned ht)
  have HC : Hid (ChIs w a cap l) := h
  obtain ⟨s, e, hV⟩ : ∃ s e, buildV l = .tuple #[.string s, .int .i64 e] := by
    unfold buildV
    split <;> exact ⟨_, _, rfl⟩
  have H3 := fun (g : Nat) W (hc : ChIs W (some ⟨g, 0, none⟩) (l.length + 1) l) => build_any (some ⟨g, 0, none⟩) (l.length + 1) l W hc
  have H4 := fun (g : Nat) W (hc : ChIs W (some ⟨g, 0, none⟩) (l.length + 1) l) (ht : Turned (fun _ => False) w W) => same_list (some ⟨g, 0, none⟩) a (l.length + 1) cap l W hc (h.turned ht)
  rw [hV] at H2 H3
  have hch : ∀ W g, Blk W g (ccells (l ++ [markC])).toArray 31 → ChIs W (some ⟨g, 0, none⟩) (l.length + 1) l := by
    intro W g hb
    refine ⟨by omega, ?_, h.2.2.1, fun h0 => ⟨g, 0, rfl, lt_of_block hb, fun i c hi => ?_⟩⟩
    · have := h.1
      simp only [maxLen]; omega
    · have hi2 : (l ++ [markC])[i]? = some c := by
        rw [List.getElem?_append_left (List.getElem?_eq_some_iff.1 hi).1]; exact hi
      obtain ⟨g1, g2⟩ := ccells_get _ i c hi2
      exact ⟨cell_of hb _ _ (by simpa using g1), cell_of hb _ _ (by simpa using g2)⟩
  have hmk : ∀ W g, Blk W g (ccells (l ++ [markC])).toArray 31 → W.cell? ⟨g, l.length * 2, none⟩ = some (.int .u32 99) ∧ W.cell? ⟨g, l.length * 2 + 1, none⟩ = some (.string ⟨#[]⟩) ∧ g < W.heap.size := by
    intro W g hb
    have hi2 : (l ++ [markC])[l.length]? = some markC := by simp
    obtain ⟨g1, g2⟩ := ccells_get _ _ _ hi2
    exact ⟨cell_of hb _ _ (by simpa [markC] using g1), cell_of hb _ _ (by simpa [markC] using g2), lt_of_block hb⟩
  have hsl : ∀ (g : Nat) W, (Instr.slice 22 (.slice (some ⟨g, 0, none⟩) l.length (l.length + 1)) none (some (.int .i64 (wrap64 ((l.length : Int) + 1)))) none).run Try.prog W = .ok (.slice (some ⟨g, 0, none⟩) (l.length + 1) (l.length + 1)) W := by
    intro g W
    obtain ⟨i, hi, hz0, hz1, hz2⟩ := info_parts info31
    have h1 := h.1
    rw [show wrap64 ((l.length : Int) + 1) = ((l.length + 1 : Nat) : Int) by simp [wrap64]; omega]
    simp [Instr.slice, Instr.sliceBounds, Instr.sliceBound, asIntOf, run_underlying Try.underlying22, sizeOf, typeInfo, hi, Result.andThen, Addr.add]
    rw [if_pos (by omega)]
  have heq := eql_mark
  have HCH : Hid (∀ W g, Blk W g (ccells (l ++ [markC])).toArray 31 → ChIs W (some ⟨g, 0, none⟩) (l.length + 1) l) := hch
  have HMK : Hid (∀ W g, Blk W g (ccells (l ++ [markC])).toArray 31 → W.cell? ⟨g, l.length * 2, none⟩ = some (.int .u32 99) ∧ W.cell? ⟨g, l.length * 2 + 1, none⟩ = some (.string ⟨#[]⟩) ∧ g < W.heap.size) := hmk
  generalize l.length = L at *
  have F1 : Hid (∀ W, Turned (fun _ => False) w W → Calls Try.prog 16 #[.slice a L cap] W _) := H1
  have F2 : Hid (∀ W, Turned (fun _ => False) w W → Calls Try.prog 18 #[.slice a L cap] W _) := H2
  have F3 : Hid (∀ (g : Nat) W, ChIs W (some ⟨g, 0, none⟩) (L + 1) l → Calls Try.prog 17 #[.slice (some ⟨g, 0, none⟩) L (L + 1)] W _) := H3
  have F4 : Hid (∀ (g : Nat) W, ChIs W (some ⟨g, 0, none⟩) (L + 1) l → Turned (fun _ => False) w W → Calls Try.prog 19 #[.slice (some ⟨g, 0, none⟩) L (L + 1), .slice a L cap] W _) := H4
  clear H1 H2 H3 H4 hV h hnil hcap hch hmk
  go_enter Try.func3, Try.ntmps3
  go_wp2_with (first
    | (go_at_call 15; (with_reducible refine hh.mono ?_); rintro e w1 ⟨rfl, ht1⟩; have h16 := F1.out w1 ht1)
    | (go_at_call 16; (with_reducible refine h16.mono ?_); rintro e w2 ⟨rfl, hb2, ht2⟩; have T2 : Hid (Turned (fun _ => False) w w2 ∧ Blk w2 w1.heap.size (ccells (l ++ [markC])).toArray 31) := ⟨ht1.trans ht2 (fun _ _ q => q), hb2⟩; generalize w1.heap.size = g at *; have h17 := F3.out g w2 (HCH.out w2 g T2.out.2); clear ht2 hb2 h16)
    | (go_at_call 17; (with_reducible refine h17.mono ?_); rintro e w3 ⟨rfl, ht3⟩; have T3 : Hid (Turned (fun _ => False) w w3 ∧ Blk w3 g (ccells (l ++ [markC])).toArray 31) := ⟨T2.out.1.trans ht3 (fun _ _ q => q), T2.out.2.turned ht3 (fun q => q)⟩; have h18 := F2.out w3 T3.out.1; clear ht3 h17)
    | (go_at_call 18; (with_reducible refine h18.mono ?_); rintro e w4 ⟨rfl, ht4⟩; have T4 : Hid (Turned (fun _ => False) w w4 ∧ Blk w4 g (ccells (l ++ [markC])).toArray 31) := ⟨T3.out.1.trans ht4 (fun _ _ q => q), T3.out.2.turned ht4 (fun q => q)⟩; have h19 := F4.out g w4 (HCH.out w4 g T4.out.2) T4.out.1; clear ht4 h18)
    | (go_at_call 19; (with_reducible refine h19.mono ?_); rintro e w5 ⟨rfl, ht5⟩; have T5 : Hid (Turned (fun _ => False) w w5) := T4.out.1.trans ht5 (fun _ _ q => q); obtain ⟨c0, c1, hg⟩ := HMK.out w5 g (T4.out.2.turned ht5 (fun q => q)); clear ht5 h19))
  go_ret
  exact ⟨rfl, T5.out⟩

set_option maxRecDepth 100000 in
theorem lifted (os : Os) (started : os.Started) (H : Type) (enc : TypeId × Value → H) :
    ReturnsInHanded {} Try.checked os 3 .any (Rows.chunkBuildsSpec.pre6 enc Try.prog Try.f3 Rows.chunkBuildsRow.domain false) (Rows.chunkBuildsSpec.post enc Try.prog Try.f3 false true false false) := by
  refine returnsInHanded_of_change_sized (C := Try.checked) own started (by kernel_rfl) Try.func3
    (ChangeSpec.witness6 (enc := enc) (C := Try.checked) false ⟨#[], #[.slice none 0 0], []⟩ 8 (by kernel_rfl) (by kernel_rfl) (by kernel_rfl) (by kernel_rfl)) ?_
  intro W base args ds gs before hval0 hW hcnd hwt _
  have hval : ∀ (j : Nat) t v, Try.f3.params[j]? = some t → args[j]? = some v → Value.okWide Try.prog W .any base t v := hval0
  have hW' := hW
  obtain ⟨p, q, hA0, hV, rfl, hfz, hnd⟩ := hW
  have hA : DataW.TrodAll enc Try.prog W 0 (fun _ => true) true Try.f3.params.toList args.toList ds p := hA0
  rw [Try.params3] at hA hval
  obtain ⟨v0, vs0, d0, ds0, p0, q0, hargs, rfl, rfl, h0, r0⟩ := trodAll_cons hA
  obtain ⟨rfl, rfl, rfl⟩ := trodAll_nil r0
  obtain rfl : args = #[v0] := by cases args; simp_all
  obtain ⟨rfl, rfl⟩ := trodVars_none hV
  obtain ⟨a0, len0, cap0, rfl⟩ := okWide_slice Try.underlying22 (hval 0 22 v0 rfl rfl)
  have k0 := h0
  have lt0 : ∀ x ∈ p0, x.block < W.heap.size := by obtain ⟨m, hm⟩ := k0; exact DataW.trod_lt m _ _ _ hm
  have hw0 : ∀ n ∈ d0.weights Try.prog 22, n ≤ reachBytes := fun n hn => by
    have := List.all_eq_true.1 hwt n (DataW.weights_mem_each (j := 0) (t := 22) (d := d0) rfl rfl n hn)
    simpa using this
  obtain ⟨l, hl, hch, hc24, hcn⟩ : ∃ l : List Ch, l.length = len0 ∧ ChIs W a0 cap0 l ∧ cap0 * 24 ≤ 140737488355328 ∧ (a0 = none → cap0 = 0) := by
    obtain ⟨fuel, hf⟩ := h0
    exact isChunks hf hw0
  subst hl
  clear hA0 hval0
  refine (builds_any a0 cap0 l W hch hcn hc24).mono fun e W' ⟨he, ht⟩ => ?_
  have bel : Below W.heap.size W W' := ht.below (fun _ _ q => q) (Nat.le_refl _)
  subst he
  exact ⟨_, rfl, _, _, _, [], _, [], hW', trodAll_mk1 (shut_bool Try.underlying4 _), (trodAll_cons_mk (Below.trod laidOut (by kernel_rfl) (of_decide_eq_true (by kernel_rfl)) k0 bel lt0) trodAll_mk0), rfl, bel.frame _, fun h => by cases h⟩

theorem over : Rows.chunkBuildsRow.holds Try.pinned (OpenSpec.ofChange Rows.chunkBuildsSpec) :=
  OpenClaim.holds_of_wide 3 Try.f3 rfl rfl rfl rfl rfl rfl rfl ⟨rfl, rfl, rfl, rfl, rfl⟩ rfl rfl rfl rfl rfl (by kernel_rfl) Try.func3 (by kernel_rfl)
    (of_decide_eq_true (by kernel_rfl)) (by unfold Func.isWrapper; first | (rw [if_pos (by decide +kernel)]; kernel_rfl) | (rw [if_neg (by decide +kernel)]; exact ⟨rfl, rfl⟩))
    (fun os started H enc _ => lifted os started H enc)

theorem proved : Rows.ChunkBuildsSaid := over
#print axioms proved
end Go.Proofs.Ytfeljngmidhajaa.chunkBuilds
