/- ChunkParses answers true for every text. No conditions. -/
import Derived.Test.YtfeljngmidhajaaRows
import Derived.Test.YtfeljngmidhajaaParsed
import Derived.Test.YtfeljngmidhajaaHolds
import Derived.Test.YtfeljngmidhajaaArgC
import Derived.ChangeMaps5
namespace Go.Proofs.Ytfeljngmidhajaa.chunkParses
open Go.ChangeShapes Go.WideShapes Go.ChangeAt Go.RowKit Go.Deep Go.Mine Go.Proofs.Ytfeljngmidhajaa

set_option maxRecDepth 100000 in
set_option maxHeartbeats 1000000 in
theorem parses_any (t : ByteArray) (w : World) (hs : t.size ≤ 140737488355328) : Calls Try.prog 6 #[.string t] w fun e w' => e = .returned (.bool true) ∧ Turned (fun _ => False) w w' := by
  have hh := holds_any w
  by_cases h1 : 4194404 < t.size
  · have hd : decide ((4194404 : Int) < (t.size : Int)) = true := by simp; omega
    have hd2 : decide (4194404 < t.size) = true := by simp; omega
    have hp := fun W => parse_any t W (by omega)
    have hR : parseR t = .error 5 := by unfold parseR; rw [if_pos (by omega)]
    rw [hR] at hp
    have HP : ∀ W, Calls Try.prog 29 #[.string t] W fun e w' => Turned (fun _ => False) W w' ∧ e = .returned (.tuple #[.slice none 0 0, .int .i64 5]) := hp
    clear hp hR hs h1
    go_enter Try.func6, Try.ntmps6
    go_wp2_with (first
      | (go_at_call 15; (with_reducible refine hh.mono ?_); rintro e w1 ⟨rfl, ht1⟩)
      | (go_at_call 29; (with_reducible refine (HP _).mono ?_); rintro e w2 ⟨ht2, rfl⟩))
    go_ret
    exact ⟨rfl, ht1.trans ht2 fun _ _ q => q⟩
  · have hd : decide ((4194404 : Int) < (t.size : Int)) = false := by simp; omega
    have hd2 : decide (4194404 < t.size) = false := by simp; omega
    have zm : (⟨#[80, 68, 71, 67, 1]⟩ ++ t : ByteArray).size = 5 + t.size := by rw [ByteArray.size_append]; rfl
    have p1 := fun W => parsed_any t W (by omega)
    have p2 := fun W => parsed_any (sealed t) W (by rw [sealed_size]; omega)
    have p3 := fun W => parsed_any (sealed (⟨#[80, 68, 71, 67, 1]⟩ ++ t)) W (by rw [sealed_size, zm]; omega)
    have s1 := fun W => sealed_any t W (by omega)
    have s2 := fun W => sealed_any (⟨#[80, 68, 71, 67, 1]⟩ ++ t) W (by rw [zm]; omega)
    have hadd : ∀ W, (Op.stringOp .add ⟨#[80, 68, 71, 67, 1]⟩ t).run Try.prog W = .ok (.string (⟨#[80, 68, 71, 67, 1]⟩ ++ t)) W := fun W => run_string_add_sum W _ _ (by
      have : (⟨#[80, 68, 71, 67, 1]⟩ : ByteArray).size = 5 := rfl
      omega)
    clear hs h1 zm
    generalize sealed (⟨#[80, 68, 71, 67, 1]⟩ ++ t) = S3 at *
    generalize (⟨#[80, 68, 71, 67, 1]⟩ ++ t : ByteArray) = S2 at *
    generalize sealed t = S1 at *
    go_enter Try.func6, Try.ntmps6
    go_wp2_with (first
      | (go_at_call 15; (with_reducible refine hh.mono ?_); rintro e w1 ⟨rfl, ht1⟩)
      | (go_at_call 30; (with_reducible refine (p1 _).mono ?_); rintro e w2 ⟨rfl, ht2⟩)
      | (go_at_call 31; (with_reducible refine (s1 _).mono ?_); rintro e w3 ⟨rfl, ht3⟩)
      | (go_at_call 30; (with_reducible refine (p2 _).mono ?_); rintro e w4 ⟨rfl, ht4⟩)
      | (go_at_call 31; (with_reducible refine (s2 _).mono ?_); rintro e w5 ⟨rfl, ht5⟩)
      | (go_at_call 30; (with_reducible refine (p3 _).mono ?_); rintro e w6 ⟨rfl, ht6⟩))
    go_ret
    exact ⟨rfl, ((((ht1.trans ht2 fun _ _ q => q).trans ht3 fun _ _ q => q).trans ht4 fun _ _ q => q).trans ht5 fun _ _ q => q).trans ht6 fun _ _ q => q⟩

set_option maxRecDepth 100000 in
theorem lifted (os : Os) (started : os.Started) (H : Type) (enc : TypeId × Value → H) :
    ReturnsInHanded {} Try.checked os 6 .any (Rows.chunkParsesSpec.pre6 enc Try.prog Try.f6 Rows.chunkParsesRow.domain false) (Rows.chunkParsesSpec.post enc Try.prog Try.f6 false true false false) := by
  refine returnsInHanded_of_change_sized (C := Try.checked) own started (by kernel_rfl) Try.func6
    (ChangeSpec.witness6 (enc := enc) (C := Try.checked) false ⟨#[], #[.string ⟨#[]⟩], []⟩ 8 (by kernel_rfl) (by kernel_rfl) (by kernel_rfl) (by kernel_rfl)) ?_
  intro W base args ds gs before hval0 hW hcnd hwt _
  have hval : ∀ (j : Nat) t v, Try.f6.params[j]? = some t → args[j]? = some v → Value.okWide Try.prog W .any base t v := hval0
  have hW' := hW
  obtain ⟨p, q, hA0, hV, rfl, hfz, hnd⟩ := hW
  have hA : DataW.TrodAll enc Try.prog W 0 (fun _ => true) true Try.f6.params.toList args.toList ds p := hA0
  rw [Try.params6] at hA hval
  obtain ⟨v0, vs0, d0, ds0, p0, q0, hargs, rfl, rfl, h0, r0⟩ := trodAll_cons hA
  obtain ⟨rfl, rfl, rfl⟩ := trodAll_nil r0
  obtain rfl : args = #[v0] := by cases args; simp_all
  obtain ⟨rfl, rfl⟩ := trodVars_none hV
  obtain ⟨s, rfl, rfl, rfl, hsm⟩ := Go.ChangeMaps.open_string Try.underlying9 (hval 0 9 v0 rfl rfl) h0
  have hs : s.size ≤ 140737488355328 := by
    have := List.all_eq_true.1 hwt s.size (DataW.weights_mem_each (j := 0) (t := 9) (d := .lit (.string s.data.toList)) rfl rfl _ (by simp [DataW.weights]))
    have h2 : s.size ≤ reachBytes := by simpa using this
    exact Nat.le_trans h2 reach_le
  clear hA0 hval0
  refine (parses_any s W hs).mono fun e W' ⟨he, ht⟩ => ?_
  have bel : Below W.heap.size W W' := ht.below (fun _ _ q => q) (Nat.le_refl _)
  subst he
  exact ⟨_, rfl, _, _, _, [], _, [], hW', trodAll_mk1 (shut_bool Try.underlying4 _), (trodAll_cons_mk (Go.ChangeMaps.shut_string Try.underlying9 hsm) trodAll_mk0), rfl, bel.frame _, fun h => by cases h⟩

theorem over : Rows.chunkParsesRow.holds Try.pinned (OpenSpec.ofChange Rows.chunkParsesSpec) :=
  OpenClaim.holds_of_wide 6 Try.f6 rfl rfl rfl rfl rfl rfl rfl ⟨rfl, rfl, rfl, rfl, rfl⟩ rfl rfl rfl rfl rfl (by kernel_rfl) Try.func6 (by kernel_rfl)
    (of_decide_eq_true (by kernel_rfl)) (by unfold Func.isWrapper; first | (rw [if_pos (by decide +kernel)]; kernel_rfl) | (rw [if_neg (by decide +kernel)]; exact ⟨rfl, rfl⟩))
    (fun os started H enc _ => lifted os started H enc)

theorem proved : Rows.ChunkParsesSaid := over
#print axioms proved
end Go.Proofs.Ytfeljngmidhajaa.chunkParses
