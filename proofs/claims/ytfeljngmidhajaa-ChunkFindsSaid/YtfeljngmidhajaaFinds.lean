/- ChunkFinds answers true for every list of chunks and every ID, and leaves all memory that was there as it was. No conditions. -/
import Derived.Test.YtfeljngmidhajaaRows
import Derived.Test.YtfeljngmidhajaaHolds
import Derived.Test.YtfeljngmidhajaaRfind
import Derived.Test.YtfeljngmidhajaaArgC
namespace Go.Proofs.Ytfeljngmidhajaa.chunkFinds
open Go.ChangeShapes Go.WideShapes Go.ChangeAt Go.RowKit Go.Deep Go.Mine Go.Proofs.Ytfeljngmidhajaa

set_option maxRecDepth 100000 in
set_option maxHeartbeats 1000000 in
theorem finds_any (a : Option Addr) (cap : Nat) (l : List Ch) (id : Nat) (w : World) (h : ChIs w a cap l) :
    Calls Try.prog 4 #[.slice a l.length cap, .int .u32 id] w fun e w' => e = .returned (.bool true) ∧ Turned (fun _ => False) w w' := by
  have hh := holds_any w
  have H1 := fun W (ht : Turned (fun _ => False) w W) => find_any a cap l id W (h.turned ht)
  have H2 := fun W (ht : Turned (fun _ => False) w W) => rfind_any a cap l id W (h.turned ht)
  obtain ⟨s, b, hV⟩ : ∃ s b, foundV (findCh l id) = .tuple #[.string s, .bool b] := ⟨_, _, rfl⟩
  rw [hV] at H1 H2
  generalize l.length = L at *
  clear h hV
  have F1 : Hid (∀ W, Turned (fun _ => False) w W → Calls Try.prog 20 #[.slice a L cap, .int .u32 id] W _) := H1
  have F2 : Hid (∀ W, Turned (fun _ => False) w W → Calls Try.prog 21 #[.slice a L cap, .int .u32 id] W _) := H2
  clear H1 H2
  go_enter Try.func4, Try.ntmps4
  go_wp2_with (first
    | (go_at_call 15; (with_reducible refine hh.mono ?_); rintro e w1 ⟨rfl, ht1⟩; have h20 := F1.out w1 ht1)
    | (go_at_call 20; (with_reducible refine h20.mono ?_); rintro e w2 ⟨rfl, ht2⟩; have T2 : Hid (Turned (fun _ => False) w w2) := ht1.trans ht2 (fun _ _ q => q); have h21 := F2.out w2 T2.out)
    | (go_at_call 21; (with_reducible refine h21.mono ?_); rintro e w3 ⟨rfl, rfl⟩))
  go_ret
  exact ⟨rfl, T2.out⟩

set_option maxRecDepth 100000 in
theorem lifted (os : Os) (started : os.Started) (H : Type) (enc : TypeId × Value → H) :
    ReturnsInHanded {} Try.checked os 4 .any (Rows.chunkFindsSpec.pre6 enc Try.prog Try.f4 Rows.chunkFindsRow.domain false) (Rows.chunkFindsSpec.post enc Try.prog Try.f4 false true false false) := by
  refine returnsInHanded_of_change_sized (C := Try.checked) own started (by kernel_rfl) Try.func4
    (ChangeSpec.witness6 (enc := enc) (C := Try.checked) false ⟨#[], #[.slice none 0 0, .int .u32 0], []⟩ 8 (by kernel_rfl) (by kernel_rfl) (by kernel_rfl) (by kernel_rfl)) ?_
  intro W base args ds gs before hval0 hW hcnd hwt _
  have hval : ∀ (j : Nat) t v, Try.f4.params[j]? = some t → args[j]? = some v → Value.okWide Try.prog W .any base t v := hval0
  have hW' := hW
  obtain ⟨p, q, hA0, hV, rfl, hfz, hnd⟩ := hW
  have hA : DataW.TrodAll enc Try.prog W 0 (fun _ => true) true Try.f4.params.toList args.toList ds p := hA0
  rw [Try.params4] at hA hval
  obtain ⟨v0, vs0, d0, ds0, p0, q0, hargs, rfl, rfl, h0, r0⟩ := trodAll_cons hA
  obtain ⟨v1, vs1, d1, ds1, p1, q1, rfl, rfl, rfl, h1, r1⟩ := trodAll_cons r0
  obtain ⟨rfl, rfl, rfl⟩ := trodAll_nil r1
  obtain rfl : args = #[v0, v1] := by cases args; simp_all
  obtain ⟨rfl, rfl⟩ := trodVars_none hV
  obtain ⟨a0, len0, cap0, rfl⟩ := okWide_slice Try.underlying22 (hval 0 22 v0 rfl rfl)
  obtain ⟨a1, rfl, rfl, rfl, w1⟩ := open_int Try.underlying29 (hval 1 29 v1 rfl rfl) h1
  have k0 := h0
  have lt0 : ∀ x ∈ p0, x.block < W.heap.size := by obtain ⟨m, hm⟩ := k0; exact DataW.trod_lt m _ _ _ hm
  have hw0 : ∀ n ∈ d0.weights Try.prog 22, n ≤ reachBytes := fun n hn => by
    have := List.all_eq_true.1 hwt n (DataW.weights_mem_each (j := 0) (t := 22) (d := d0) rfl rfl n hn)
    simpa using this
  obtain ⟨l, hl, hch, -, -⟩ : ∃ l : List Ch, l.length = len0 ∧ ChIs W a0 cap0 l ∧ cap0 * 24 ≤ 140737488355328 ∧ (a0 = none → cap0 = 0) := by
    obtain ⟨fuel, hf⟩ := h0
    exact isChunks hf hw0
  have hb := _root_.Go.bounds_u32 w1
  obtain ⟨id, rfl⟩ : ∃ id : Nat, a1 = (id : Int) := ⟨a1.toNat, by omega⟩
  subst hl
  clear hA0 hval0
  refine (finds_any a0 cap0 l id W hch).mono fun e W' ⟨he, ht⟩ => ?_
  have bel : Below W.heap.size W W' := ht.below (fun _ _ q => q) (Nat.le_refl _)
  subst he
  exact ⟨_, rfl, _, _, _, [], _, [], hW', trodAll_mk1 (shut_bool Try.underlying4 _), (trodAll_cons_mk (Below.trod laidOut (by kernel_rfl) (of_decide_eq_true (by kernel_rfl)) k0 bel lt0) (trodAll_cons_mk (shut_int Try.underlying29 w1) trodAll_mk0)), rfl, bel.frame _, fun h => by cases h⟩

theorem over : Rows.chunkFindsRow.holds Try.pinned (OpenSpec.ofChange Rows.chunkFindsSpec) :=
  OpenClaim.holds_of_wide 4 Try.f4 rfl rfl rfl rfl rfl rfl rfl ⟨rfl, rfl, rfl, rfl, rfl⟩ rfl rfl rfl rfl rfl (by kernel_rfl) Try.func4 (by kernel_rfl)
    (of_decide_eq_true (by kernel_rfl)) (by unfold Func.isWrapper; first | (rw [if_pos (by decide +kernel)]; kernel_rfl) | (rw [if_neg (by decide +kernel)]; exact ⟨rfl, rfl⟩))
    (fun os started H enc _ => lifted os started H enc)

theorem proved : Rows.ChunkFindsSaid := over
#print axioms proved
end Go.Proofs.Ytfeljngmidhajaa.chunkFinds
