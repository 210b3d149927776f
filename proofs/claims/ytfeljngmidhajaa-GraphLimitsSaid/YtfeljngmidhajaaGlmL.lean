/- GraphLimits answers true for every input, and leaves all memory that was there as it was. No conditions. -/
import Derived.Test.YtfeljngmidhajaaRows
import Derived.Test.YtfeljngmidhajaaGlm
import Derived.Test.YtfeljngmidhajaaArgG
import Derived.ChangeMaps5
namespace Go.Proofs.Ytfeljngmidhajaa.graphLimits
open Go.ChangeShapes Go.WideShapes Go.ChangeAt Go.RowKit Go.Deep Go.Mine Go.Proofs.Ytfeljngmidhajaa

set_option maxRecDepth 100000 in
theorem lifted (os : Os) (started : os.Started) (H : Type) (enc : TypeId × Value → H) :
    ReturnsInHanded {} Try.checked os 14 .any (Rows.graphLimitsSpec.pre6 enc Try.prog Try.f14 Rows.graphLimitsRow.domain false) (Rows.graphLimitsSpec.post enc Try.prog Try.f14 false true false false) := by
  refine returnsInHanded_of_change_sized (C := Try.checked) own started (by kernel_rfl) Try.func14
    (ChangeSpec.witness6 (enc := enc) (C := Try.checked) false ⟨#[], #[.int .u8 0, .int .u8 0, .int .u8 0], []⟩ 8 (by kernel_rfl) (by kernel_rfl) (by kernel_rfl) (by kernel_rfl)) ?_
  intro W base args ds gs before hval0 hW hcnd hwt _
  have hval : ∀ (j : Nat) t v, Try.f14.params[j]? = some t → args[j]? = some v → Value.okWide Try.prog W .any base t v := hval0
  have hW' := hW
  obtain ⟨p, q, hA0, hV, rfl, hfz, hnd⟩ := hW
  have hA : DataW.TrodAll enc Try.prog W 0 (fun _ => true) true Try.f14.params.toList args.toList ds p := hA0
  rw [Try.params14] at hA hval
  obtain ⟨v0, vs0, d0, ds0, p0, q0, hargs, rfl, rfl, h0, r0⟩ := trodAll_cons hA
  obtain ⟨v1, vs1, d1, ds1, p1, q1, rfl, rfl, rfl, h1, r1⟩ := trodAll_cons r0
  obtain ⟨v2, vs2, d2, ds2, p2, q2, rfl, rfl, rfl, h2, r2⟩ := trodAll_cons r1
  obtain ⟨rfl, rfl, rfl⟩ := trodAll_nil r2
  obtain rfl : args = #[v0, v1, v2] := by cases args; simp_all
  obtain ⟨rfl, rfl⟩ := trodVars_none hV
  obtain ⟨x0, rfl, rfl, rfl, w0⟩ := open_int Try.underlying5 (hval 0 5 v0 rfl rfl) h0
  have hb0 := _root_.Go.bounds_u8 w0
  obtain ⟨y0, rfl⟩ : ∃ y : Nat, x0 = (y : Int) := ⟨x0.toNat, by omega⟩
  obtain ⟨x1, rfl, rfl, rfl, w1⟩ := open_int Try.underlying5 (hval 1 5 v1 rfl rfl) h1
  have hb1 := _root_.Go.bounds_u8 w1
  obtain ⟨y1, rfl⟩ : ∃ y : Nat, x1 = (y : Int) := ⟨x1.toNat, by omega⟩
  obtain ⟨x2, rfl, rfl, rfl, w2⟩ := open_int Try.underlying5 (hval 2 5 v2 rfl rfl) h2
  have hb2 := _root_.Go.bounds_u8 w2
  obtain ⟨y2, rfl⟩ : ∃ y : Nat, x2 = (y : Int) := ⟨x2.toNat, by omega⟩
  clear hA0 hval0
  have con := glimits_law y0 y1 y2 W (by omega) (by omega) (by omega)
  refine con.mono fun e W' ⟨he, ht⟩ => ?_
  have bel : Below W.heap.size W W' := ht.below (fun _ _ q => q) (Nat.le_refl _)
  subst he
  exact ⟨_, rfl, _, _, _, [], _, [], hW', trodAll_mk1 (shut_bool Try.underlying4 _), (trodAll_cons_mk (shut_int Try.underlying5 w0) (trodAll_cons_mk (shut_int Try.underlying5 w1) (trodAll_cons_mk (shut_int Try.underlying5 w2) trodAll_mk0))), rfl, bel.frame _, fun h => by cases h⟩

theorem over : Rows.graphLimitsRow.holds Try.pinned (OpenSpec.ofChange Rows.graphLimitsSpec) :=
  OpenClaim.holds_of_wide 14 Try.f14 rfl rfl rfl rfl rfl rfl rfl ⟨rfl, rfl, rfl, rfl, rfl⟩ rfl rfl rfl rfl rfl (by kernel_rfl) Try.func14 (by kernel_rfl)
    (of_decide_eq_true (by kernel_rfl)) (by unfold Func.isWrapper; first | (rw [if_pos (by decide +kernel)]; kernel_rfl) | (rw [if_neg (by decide +kernel)]; exact ⟨rfl, rfl⟩))
    (fun os started H enc _ => lifted os started H enc)

theorem proved : Rows.GraphLimitsSaid := over
#print axioms proved
end Go.Proofs.Ytfeljngmidhajaa.graphLimits
