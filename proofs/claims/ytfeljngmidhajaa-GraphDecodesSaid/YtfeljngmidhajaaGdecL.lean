/- GraphDecodes answers true for every input, and leaves all memory that was there as it was. No conditions. -/
import Derived.Test.YtfeljngmidhajaaRows
import Derived.Test.YtfeljngmidhajaaMh
import Derived.Test.YtfeljngmidhajaaArgG
import Derived.ChangeMaps5
namespace Go.Proofs.Ytfeljngmidhajaa.graphDecodes
open Go.ChangeShapes Go.WideShapes Go.ChangeAt Go.RowKit Go.Deep Go.Mine Go.Proofs.Ytfeljngmidhajaa

set_option maxRecDepth 100000 in
theorem lifted (os : Os) (started : os.Started) (H : Type) (enc : TypeId × Value → H) :
    ReturnsInHanded {} Try.checked os 11 .any (Rows.graphDecodesSpec.pre6 enc Try.prog Try.f11 Rows.graphDecodesRow.domain false) (Rows.graphDecodesSpec.post enc Try.prog Try.f11 false true false false) := by
  refine returnsInHanded_of_change_sized (C := Try.checked) own started (by kernel_rfl) Try.func11
    (ChangeSpec.witness6 (enc := enc) (C := Try.checked) false ⟨#[], #[.string ⟨#[]⟩], []⟩ 8 (by kernel_rfl) (by kernel_rfl) (by kernel_rfl) (by kernel_rfl)) ?_
  intro W base args ds gs before hval0 hW hcnd hwt _
  have hval : ∀ (j : Nat) t v, Try.f11.params[j]? = some t → args[j]? = some v → Value.okWide Try.prog W .any base t v := hval0
  have hW' := hW
  obtain ⟨p, q, hA0, hV, rfl, hfz, hnd⟩ := hW
  have hA : DataW.TrodAll enc Try.prog W 0 (fun _ => true) true Try.f11.params.toList args.toList ds p := hA0
  rw [Try.params11] at hA hval
  obtain ⟨v0, vs0, d0, ds0, p0, q0, hargs, rfl, rfl, h0, r0⟩ := trodAll_cons hA
  obtain ⟨rfl, rfl, rfl⟩ := trodAll_nil r0
  obtain rfl : args = #[v0] := by cases args; simp_all
  obtain ⟨rfl, rfl⟩ := trodVars_none hV
  obtain ⟨s0, rfl, rfl, rfl, hsm0⟩ := Go.ChangeMaps.open_string Try.underlying9 (hval 0 9 v0 rfl rfl) h0
  have hs0 : s0.size ≤ 140737488355328 := by
    have := List.all_eq_true.1 hwt s0.size (DataW.weights_mem_each (j := 0) (t := 9) (d := .lit (.string s0.data.toList)) rfl rfl _ (by simp [DataW.weights]))
    have h2 : s0.size ≤ reachBytes := by simpa using this
    exact Nat.le_trans h2 reach_le
  clear hA0 hval0
  have con := gdecodes_law s0 W (Nat.le_trans hs0 (by decide))
  refine con.mono fun e W' ⟨he, ht⟩ => ?_
  have bel : Below W.heap.size W W' := ht.below (fun _ _ q => q) (Nat.le_refl _)
  subst he
  exact ⟨_, rfl, _, _, _, [], _, [], hW', trodAll_mk1 (shut_bool Try.underlying4 _), (trodAll_cons_mk (Go.ChangeMaps.shut_string Try.underlying9 hsm0) trodAll_mk0), rfl, bel.frame _, fun h => by cases h⟩

theorem over : Rows.graphDecodesRow.holds Try.pinned (OpenSpec.ofChange Rows.graphDecodesSpec) :=
  OpenClaim.holds_of_wide 11 Try.f11 rfl rfl rfl rfl rfl rfl rfl ⟨rfl, rfl, rfl, rfl, rfl⟩ rfl rfl rfl rfl rfl (by kernel_rfl) Try.func11 (by kernel_rfl)
    (of_decide_eq_true (by kernel_rfl)) (by unfold Func.isWrapper; first | (rw [if_pos (by decide +kernel)]; kernel_rfl) | (rw [if_neg (by decide +kernel)]; exact ⟨rfl, rfl⟩))
    (fun os started H enc _ => lifted os started H enc)

theorem proved : Rows.GraphDecodesSaid := over
#print axioms proved
end Go.Proofs.Ytfeljngmidhajaa.graphDecodes
