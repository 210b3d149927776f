/- ChainDecodes answers true for every text, at the tables that the program's text lays. No other conditions. -/
import Derived.Test.YtfeljngmidhajaaDoorCards
import Derived.Test.YtfeljngmidhajaaDoorTie
import Derived.Test.YtfeljngmidhajaaDoorLaid
import Derived.Test.YtfeljngmidhajaaDoorLinks
import Derived.Test.YtfeljngmidhajaaDoorDecoded
namespace Go.Proofs.YtfeljngmidhajaaDoor.chainDecodes
open Go.ChangeShapes Go.WideShapes Go.ChangeAt Go.RowKit Go.Mine Go.Proofs.YtfeljngmidhajaaDoor

set_option maxRecDepth 100000 in
set_option maxHeartbeats 1000000 in
theorem decodes_any (t : ByteArray) (w : World) (ht : Tab w) (hs : t.size ≤ 140737488355328) : Calls Tryd.prog 3 #[.string t] w fun e w' => e = .returned (.bool true) ∧ Turned (fun _ => False) w w' := by
  have hh := links_any w ht
  have zm : (⟨#[80, 68, 71, 77, 1]⟩ ++ t : ByteArray).size = 5 + t.size := by rw [ByteArray.size_append]; rfl
  have p1 := fun W => decoded_any t W (by omega)
  have p2 := fun W => decoded_any (sealed t) W (by rw [sealed_size]; omega)
  have p3 := fun W => decoded_any (sealed (⟨#[80, 68, 71, 77, 1]⟩ ++ t)) W (by rw [sealed_size, zm]; omega)
  have s1 := fun W => sealed_any t W (by omega)
  have s2 := fun W => sealed_any (⟨#[80, 68, 71, 77, 1]⟩ ++ t) W (by rw [zm]; omega)
  have hadd : ∀ W, (Op.stringOp .add ⟨#[80, 68, 71, 77, 1]⟩ t).run Tryd.prog W = .ok (.string (⟨#[80, 68, 71, 77, 1]⟩ ++ t)) W := fun W => run_string_add_sum W _ _ (by
    have : (⟨#[80, 68, 71, 77, 1]⟩ : ByteArray).size = 5 := rfl
    omega)
  clear hs zm ht
  generalize sealed (⟨#[80, 68, 71, 77, 1]⟩ ++ t) = S3 at *
  generalize (⟨#[80, 68, 71, 77, 1]⟩ ++ t : ByteArray) = S2 at *
  generalize sealed t = S1 at *
  go_enter Tryd.func3, Tryd.ntmps3
  go_wp2_with (first
    | (go_at_call 6; (with_reducible refine hh.mono ?_); rintro e w1 ⟨rfl, ht1⟩)
    | (go_at_call 7; (with_reducible refine (p1 _).mono ?_); rintro e w2 ⟨rfl, ht2⟩)
    | (go_at_call 8; (with_reducible refine (s1 _).mono ?_); rintro e w3 ⟨rfl, ht3⟩)
    | (go_at_call 7; (with_reducible refine (p2 _).mono ?_); rintro e w4 ⟨rfl, ht4⟩)
    | (go_at_call 8; (with_reducible refine (s2 _).mono ?_); rintro e w5 ⟨rfl, ht5⟩)
    | (go_at_call 7; (with_reducible refine (p3 _).mono ?_); rintro e w6 ⟨rfl, ht6⟩))
  go_ret
  exact ⟨rfl, ((((ht1.trans ht2 fun _ _ q => q).trans ht3 fun _ _ q => q).trans ht4 fun _ _ q => q).trans ht5 fun _ _ q => q).trans ht6 fun _ _ q => q⟩

theorem reach_le : reachBytes ≤ 140737488355328 := by decide

set_option maxRecDepth 100000 in
theorem contract (H : Type) (enc : TypeId × Value → H) (W : World) (base : Nat) (args : Array Value) (ds gs : List (DataW H)) (before : List MemPlace)
    (hval : ∀ (j : Nat) t v, Tryd.f3.params[j]? = some t → args[j]? = some v → Value.okWide Tryd.prog W .any base t v)
    (hW : DataW.Whole enc Tryd.prog Tryd.f3.params.toList Rows.chainDecodesSpec.vars false W args.toList ds gs before)
    (hwt : (DataW.weightsEach Tryd.prog (Tryd.f3.params.toList ++ Rows.chainDecodesSpec.plain.varTypes Tryd.prog) (ds ++ gs)).all (· ≤ reachBytes) = true)
    (hL : laidMetH Tryd.prog Rows.chainDecodesRow.laid W) :
    Calls Tryd.prog 3 args W fun e W' => ∃ v, e = .returned v ∧ Rows.chainDecodesSpec.post enc Tryd.prog Tryd.f3 false true false false W args v W' := by
  have htab : Tab W := tab_of_laid (rest := []) hL
  have hW' := hW
  obtain ⟨p, q, hA0, hV, rfl, hfz, hnd⟩ := hW
  have hA : DataW.TrodAll enc Tryd.prog W 0 (fun _ => true) true Tryd.f3.params.toList args.toList ds p := hA0
  rw [Tryd.params3] at hA hval
  obtain ⟨v0, vs0, d0, ds0, p0, q0, hargs, rfl, rfl, h0, r0⟩ := trodAll_cons hA
  obtain ⟨rfl, rfl, rfl⟩ := trodAll_nil r0
  obtain rfl : args = #[v0] := by cases args; simp_all
  obtain ⟨rfl, rfl⟩ := trodVars_none hV
  obtain ⟨s, rfl, rfl, rfl, hsm⟩ := Go.ChangeMaps.open_string Tryd.underlying9 (hval 0 9 v0 rfl rfl) h0
  have hs : s.size ≤ 140737488355328 := by
    have := List.all_eq_true.1 hwt s.size (DataW.weights_mem_each (j := 0) (t := 9) (d := .lit (.string s.data.toList)) rfl rfl _ (by simp [DataW.weights]))
    have h2 : s.size ≤ reachBytes := by simpa using this
    exact Nat.le_trans h2 reach_le
  clear hA0
  refine (decodes_any s W htab hs).mono fun e W' ⟨he, ht⟩ => ?_
  have bel : Below W.heap.size W W' := ht.below (fun _ _ q => q) (Nat.le_refl _)
  subst he
  exact ⟨_, rfl, _, _, _, [], _, [], hW', trodAll_mk1 (shut_bool Tryd.underlying4 _), (trodAll_cons_mk (Go.ChangeMaps.shut_string Tryd.underlying9 hsm) trodAll_mk0), rfl, bel.frame _, fun h => by cases h⟩

theorem laid_met (os : Os) : laidMet Tryd.prog Rows.chainDecodesRow.laid ((laidWorld os).forCall (fun _ _ => 0) ⟨#[], #[.string ⟨#[]⟩], []⟩).memory :=
  laidMet_of_run' 8 (by kernel_rfl) (by kernel_rfl)
theorem reads (os : Os) {H : Type} (enc : TypeId × Value → H) : ∃ places, DataW.whole enc Tryd.prog ((laidWorld os).forCall (fun _ _ => 0) ⟨#[], #[.string ⟨#[]⟩], []⟩).memory Tryd.f3.params.toList Rows.chainDecodesSpec.vars false #[Value.string ⟨#[]⟩].toList 8 = some ([.lit (.string [])], [], places) :=
  ⟨[], by kernel_rfl⟩

set_option maxRecDepth 100000 in
theorem lifted (os : Os) (started : os.Started) (H : Type) (enc : TypeId × Value → H) (F : Stop.Interp) :
    ReturnsInHanded {} Tryd.checked os 3 .any ((OpenSpec.ofChange Rows.chainDecodesSpec).preRow enc Tryd.prog Tryd.f3 Rows.chainDecodesRow.domain false Rows.chainDecodesRow.laid) (((OpenSpec.ofChange Rows.chainDecodesSpec).at F).post enc Tryd.prog Tryd.f3 false true false false) := by
  obtain ⟨places, hx⟩ := reads os enc
  refine returnsInHanded_of_row (C := Tryd.checked) (s := OpenSpec.ofChange Rows.chainDecodesSpec) own started (by kernel_rfl) Tryd.func3
    (witness_row_at (enc := enc) (C := Tryd.checked) false (laidWorld os) #[.string ⟨#[]⟩] rfl (by kernel_rfl) (by kernel_rfl) (by kernel_rfl)
      (OpenSpec.preRow_of_cond 8 hx (by kernel_rfl) (fun k hk => by cases hk) (by kernel_rfl) (laid_met os))) ?_
  intro W base args ds gs before hval hW _ _ hwt hL _ _
  exact contract H enc W base args ds gs before hval hW hwt hL

theorem said : Rows.ChainDecodesSaid :=
  OpenClaim.holds_of_cond 3 Tryd.f3 rfl rfl rfl rfl rfl rfl rfl ⟨rfl, rfl, rfl, rfl, rfl⟩ rfl rfl rfl rfl rfl (by kernel_rfl) Tryd.func3 (by kernel_rfl)
    (of_decide_eq_true (by kernel_rfl)) (by unfold Func.isWrapper; first | (rw [if_pos (by decide +kernel)]; kernel_rfl) | (rw [if_neg (by decide +kernel)]; exact ⟨rfl, rfl⟩))
    (fun os started H enc _ F => by rw [OpenClaim.pre_eq_preRow]; exact lifted os started H enc F)

theorem plain (f : FuncId) (fn : Func) (hf : Tryd.pinned.checked.prog.funcNamed "pedigree/pedigreelaw16.ChainDecodes" = some f) (hfn : Tryd.pinned.checked.prog.funcs[f]? = some fn) :
    true = Tryd.pinned.checked.prog.looks [] ∧ ∀ (j : Nat) t, fn.params[j]? = some t → Tryd.pinned.checked.prog.wantsStandIn t = false := by
  obtain rfl : f = 3 := Option.some.inj ((show Tryd.prog.funcNamed "pedigree/pedigreelaw16.ChainDecodes" = some 3 by kernel_rfl).symm.trans hf) |>.symm
  obtain rfl : fn = Tryd.f3 := (Option.some.inj (Tryd.func3.symm.trans hfn)).symm
  refine ⟨by kernel_rfl, fun j t ht => ?_⟩
  rw [Tryd.params3] at ht
  obtain rfl : t = 9 := by simpa using Array.mem_of_getElem? ht
  exact (show Tryd.prog.wantsStandIn 9 = false by kernel_rfl)

theorem proved : Rows.ChainDecodesCardSaid :=
  Claim7.holds_tied_plain_at .later [] _ _ _ _ said (fun _ h => by cases h) (by kernel_rfl) (fun _ h => by cases h) chainDecodes_row_tie rfl ⟨rfl, rfl⟩ (by kernel_rfl) rfl plain (by kernel_rfl)
#print axioms proved
end Go.Proofs.YtfeljngmidhajaaDoor.chainDecodes
