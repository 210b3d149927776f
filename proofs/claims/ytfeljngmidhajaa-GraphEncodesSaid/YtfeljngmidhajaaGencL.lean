/- GraphEncodes answers true for every input, and leaves all memory that was there as it was. No conditions. -/
import Derived.Test.YtfeljngmidhajaaRows
import Derived.Test.YtfeljngmidhajaaGenc
import Derived.Test.YtfeljngmidhajaaArgG
import Derived.ChangeMaps5
namespace Go.Proofs.Ytfeljngmidhajaa.graphEncodes
open Go.ChangeShapes Go.WideShapes Go.ChangeAt Go.RowKit Go.Deep Go.Mine Go.Proofs.Ytfeljngmidhajaa

set_option maxRecDepth 100000 in
theorem lifted (os : Os) (started : os.Started) (H : Type) (enc : TypeId × Value → H) :
    ReturnsInHanded {} Try.checked os 5 .any (Rows.graphEncodesSpec.pre6 enc Try.prog Try.f5 Rows.graphEncodesRow.domain false) (Rows.graphEncodesSpec.post enc Try.prog Try.f5 false true false false) := by
  refine returnsInHanded_of_change_sized (C := Try.checked) own started (by kernel_rfl) Try.func5
    (ChangeSpec.witness6 (enc := enc) (C := Try.checked) false ⟨#[], #[.agg #[.int .i64 0, .int .i64 0, .int .i64 0, .int .i64 0, .int .u32 0, .slice none 0 0]], []⟩ 8 (by kernel_rfl) (by kernel_rfl) (by kernel_rfl) (by kernel_rfl)) ?_
  intro W base args ds gs before hval0 hW hcnd hwt _
  have hval : ∀ (j : Nat) t v, Try.f5.params[j]? = some t → args[j]? = some v → Value.okWide Try.prog W .any base t v := hval0
  have hW' := hW
  obtain ⟨p, q, hA0, hV, rfl, hfz, hnd⟩ := hW
  have hA : DataW.TrodAll enc Try.prog W 0 (fun _ => true) true Try.f5.params.toList args.toList ds p := hA0
  rw [Try.params5] at hA hval
  obtain ⟨v0, vs0, d0, ds0, p0, q0, hargs, rfl, rfl, h0, r0⟩ := trodAll_cons hA
  obtain ⟨rfl, rfl, rfl⟩ := trodAll_nil r0
  obtain rfl : args = #[v0] := by cases args; simp_all
  obtain ⟨rfl, rfl⟩ := trodVars_none hV
  obtain ⟨cs0, rfl, hcz0⟩ := okWide_struct Try.underlying40 (hval 0 40 v0 rfl rfl)
  have k0 := h0
  have lt0 : ∀ x ∈ p0, x.block < W.heap.size := by obtain ⟨m, hm⟩ := k0; exact DataW.trod_lt m _ _ _ hm
  have hw0 : ∀ n ∈ d0.weights Try.prog 40, n ≤ reachBytes := fun n hn => by
    have := List.all_eq_true.1 hwt n (DataW.weights_mem_each (j := 0) (t := 40) (d := d0) rfl rfl n hn)
    simpa using this
  obtain ⟨g0, a0, cap0, hgv0, hgok0, hgr0, hgc0, hgp0⟩ := (by
    obtain ⟨fuel, hf⟩ := h0
    exact isGraph (hcz0.trans (by kernel_rfl)) hf hw0 : ∃ (g : Gr) (a : Option Addr) (cap : Nat), Value.agg cs0 = grv a cap g ∧ GrOk g ∧ RwIs W (fun _ => True) a cap g.rows ∧ cap * 64 ≤ 140737488351232 ∧ ∀ r ∈ g.rows, r.par.length * 8 ≤ 140737488351232)
  have hgl0 : g0.rows.length ≤ 2199023255551 := by have := hgr0.1; omega
  have hgq0 : ∀ r ∈ g0.rows, r.par.length ≤ 17592186044415 := fun r hr => by have := hgp0 r hr; omega
  clear hA0 hval0
  have con := gencodes_law a0 cap0 g0 W hgr0 hgl0 hgq0 hgok0
  rw [← hgv0] at con
  refine con.mono fun e W' ⟨he, ht⟩ => ?_
  have bel : Below W.heap.size W W' := ht.below (fun _ _ q => q) (Nat.le_refl _)
  subst he
  exact ⟨_, rfl, _, _, _, [], _, [], hW', trodAll_mk1 (shut_bool Try.underlying4 _), (trodAll_cons_mk (Below.trod laidOut (by kernel_rfl) (of_decide_eq_true (by kernel_rfl)) k0 bel lt0) trodAll_mk0), rfl, bel.frame _, fun h => by cases h⟩

theorem over : Rows.graphEncodesRow.holds Try.pinned (OpenSpec.ofChange Rows.graphEncodesSpec) :=
  OpenClaim.holds_of_wide 5 Try.f5 rfl rfl rfl rfl rfl rfl rfl ⟨rfl, rfl, rfl, rfl, rfl⟩ rfl rfl rfl rfl rfl (by kernel_rfl) Try.func5 (by kernel_rfl)
    (of_decide_eq_true (by kernel_rfl)) (by unfold Func.isWrapper; first | (rw [if_pos (by decide +kernel)]; kernel_rfl) | (rw [if_neg (by decide +kernel)]; exact ⟨rfl, rfl⟩))
    (fun os started H enc _ => lifted os started H enc)

theorem proved : Rows.GraphEncodesSaid := over
#print axioms proved
end Go.Proofs.Ytfeljngmidhajaa.graphEncodes
