/- ScriptBetween is true for any two texts and any places, at the tables and the errors that the program's text lays -/
import Derived.Test.YteblabpplaaddaaGreatDoorCards
import Derived.Test.YteblabpplaaddaaGreatDoorTie
import Derived.Lay
import Derived.Test.YteblabpplaaddaaGreatDoorZa
import Derived.Test.YteblabpplaaddaaGreatDoorAs
import Derived.Test.YteblabpplaaddaaGreatDoorMz
set_option linter.unusedVariables false
set_option linter.unusedSimpArgs false
namespace Go.Proofs.YteblabpplaaddaaGreatDoor.scriptBetween
open Go.ChangeShapes Go.WideShapes Go.ChangeAt Go.RowKit Go.Deep Go.Mine Go.Mine.Sc Go.Proofs.YteblabpplaaddaaGreatDoor

theorem cells_one {w : World} {base : Nat} {a : Addr} {cs : List Value} (h : w.cells? base a 1 = some cs) : ∃ v, cs = [v] ∧ w.cell? a = some v := by
  obtain ⟨_, hl, hat⟩ := World.cells?_some h
  match cs, hl with
  | [v], _ =>
    have := hat 0 (by decide)
    rw [addr_zero] at this
    exact ⟨v, rfl, this⟩
section
variable {H : Type} {enc : TypeId × Value → H} {W : World} {held : Bool}
set_option maxRecDepth 100000 in
/-- bytes that came in -/
theorem isBytes {a : Option Addr} {len cap fuel : Nat} {x : DataW H × List MemPlace}
    (h : DataW.trod enc Tryz.prog W 0 (fun _ => true) held fuel 26 [.slice a len cap] = some x) :
    ∃ ps : List Nat, Rd W (fun _ => True) 1 (.slice a len cap) (ps.map fun p => Value.int .u8 ((p : Nat) : Int)) len ∧ ∀ p ∈ ps, p < 256 := by
  rcases open_slice Tryz.underlying26 h with ⟨hcs, _⟩ | ⟨ad, l, c, m, n, D, Pl, hcs, _, hl, hm, hmm, hx, hi⟩
  · simp at hcs
    obtain ⟨rfl, rfl, rfl⟩ := hcs
    exact ⟨[], ⟨rfl, none, 0, rfl, Nat.le_refl _, by simp [maxLen], fun q => by omega⟩, by simp⟩
  · simp at hcs
    obtain ⟨rfl, rfl, rfl⟩ := hcs
    simp only [if_true] at hmm
    subst hmm
    have hc5 : Tryz.prog.cellsOf 5 = 1 := by kernel_rfl
    have hel : ∀ i, i < len → ∃ k : Nat, k < 256 ∧ W.cell? (ad.add i) = some (.int .u8 ((k : Nat) : Int)) := fun i hi' => by
      obtain ⟨cs', h1, h2⟩ := hi i (by omega)
      rw [hc5, Nat.mul_one] at h1
      obtain ⟨v, rfl, hv⟩ := cells_one h1
      obtain ⟨k, hk, -, wk⟩ := DataW.trod_int Tryz.underlying5 h2
      obtain rfl : v = .int .u8 k := by simpa using hk
      obtain ⟨w1, w2⟩ := _root_.Go.bounds_u8 wk
      obtain ⟨k', rfl⟩ := Int.eq_ofNat_of_zero_le w1
      exact ⟨k', by omega, hv⟩
    obtain ⟨ps, hll, hlp⟩ := listOf len hel
    refine ⟨ps, ⟨by rw [List.length_map, hll, Nat.mul_one], some ad, m, rfl, hl, hm, fun q => ?_⟩, fun k hk => ?_⟩
    · obtain ⟨-, c0⟩ := hlp 0 _ (List.getElem?_eq_getElem (by omega))
      rw [addr_zero] at c0
      obtain ⟨b, off, rfl, hb⟩ := plain_addr c0
      refine ⟨b, off, rfl, trivial, hb, fun i hi' => ?_⟩
      obtain ⟨-, ci⟩ := hlp i _ (List.getElem?_eq_getElem (by omega))
      rw [Addr.add_lit] at ci
      rw [ci]
      simp [List.getElem?_eq_getElem (show i < ps.length by omega)]
    · obtain ⟨i, hi'⟩ := List.getElem?_of_mem hk
      exact (hlp i k hi').1
end
theorem reach_le : reachBytes ≤ 140737488355328 := by decide

set_option maxRecDepth 100000 in
theorem contract (H : Type) (enc : TypeId × Value → H) (W : World) (base : Nat) (args : Array Value) (ds gs : List (DataW H)) (before : List MemPlace)
    (hval : ∀ (j : Nat) t v, Tryz.f5.params[j]? = some t → args[j]? = some v → Value.okWide Tryz.prog W .any base t v)
    (hW : DataW.Whole enc Tryz.prog Tryz.f5.params.toList Rows.scriptBetweenSpec.vars false W args.toList ds gs before)
    (hwt : (DataW.weightsEach Tryz.prog (Tryz.f5.params.toList ++ Rows.scriptBetweenSpec.plain.varTypes Tryz.prog) (ds ++ gs)).all (· ≤ reachBytes) = true)
    (hL : laidMetH Tryz.prog Rows.scriptBetweenRow.laid W) :
    Calls Tryz.prog 5 args W fun e W' => ∃ v, e = .returned v ∧ Rows.scriptBetweenSpec.post enc Tryz.prog Tryz.f5 false true false false W args v W' := by
  have htab : Tables W := tables_of_laid (show laidMet Tryz.prog Rows.scriptParsesRow.laid W from hL)
  have hW' := hW
  obtain ⟨p, q, hA0, hV, rfl, hfz, hnd⟩ := hW
  have hA : DataW.TrodAll enc Tryz.prog W 0 (fun _ => true) true Tryz.f5.params.toList args.toList ds p := hA0
  rw [Tryz.params5] at hA hval
  obtain ⟨v0, vs0, d0, ds0, p0, q0, hargs, rfl, rfl, h0, r0⟩ := trodAll_cons hA
  obtain ⟨v1, vs1, d1, ds1, p1, q1, rfl, rfl, rfl, h1, r1⟩ := trodAll_cons r0
  obtain ⟨v2, vs2, d2, ds2, p2, q2, rfl, rfl, rfl, h2, r2⟩ := trodAll_cons r1
  obtain ⟨rfl, rfl, rfl⟩ := trodAll_nil r2
  obtain rfl : args = #[v0, v1, v2] := by cases args; simp_all
  obtain ⟨rfl, rfl⟩ := trodVars_none hV
  obtain ⟨s, rfl, rfl, rfl, hsm⟩ := Go.ChangeMaps.open_string Tryz.underlying9 (hval 0 9 v0 rfl rfl) h0
  obtain ⟨t, rfl, rfl, rfl, htm⟩ := Go.ChangeMaps.open_string Tryz.underlying9 (hval 1 9 v1 rfl rfl) h1
  have hs : s.size ≤ 140737488355328 := by
    have := List.all_eq_true.1 hwt s.size (DataW.weights_mem_each (j := 0) (t := 9) (d := .lit (.string s.data.toList)) rfl rfl _ (by simp [DataW.weights]))
    have h2 : s.size ≤ reachBytes := by simpa using this
    exact Nat.le_trans h2 reach_le
  have ht : t.size ≤ 140737488355328 := by
    have := List.all_eq_true.1 hwt t.size (DataW.weights_mem_each (j := 1) (t := 9) (d := .lit (.string t.data.toList)) rfl rfl _ (by simp [DataW.weights]))
    have h2 : t.size ≤ reachBytes := by simpa using this
    exact Nat.le_trans h2 reach_le
  obtain ⟨a2, len2, cap2, rfl⟩ := okWide_slice Tryz.underlying26 (hval 2 26 v2 rfl rfl)
  have k2 := h2
  have lt2 : ∀ x ∈ p2, x.block < W.heap.size := by obtain ⟨m, hm⟩ := k2; exact DataW.trod_lt m _ _ _ hm
  obtain ⟨ps, hps, hpb⟩ : ∃ ps : List Nat, Rd W (fun _ => True) 1 (.slice a2 len2 cap2) (ps.map fun p => Value.int .u8 ((p : Nat) : Int)) len2 ∧ ∀ p ∈ ps, p < 256 := by
    obtain ⟨fuel, hf⟩ := h2
    exact isBytes hf
  clear hA0
  have hb : bs s.data.toList = s := by unfold bs; simp
  have hbt : bs t.data.toList = t := by unfold bs; simp
  have law := between_law W W (Lw.start htab) (fun _ => True) a2 len2 cap2 ps hps hpb s.data.toList t.data.toList (by have := hs; simp at this ⊢; omega) (by have := ht; simp at this ⊢; omega)
  rw [hb, hbt] at law
  refine law.mono fun e W' ⟨he, ht⟩ => ?_
  have bel : Below W.heap.size W W' := ht.below (fun _ _ q => q) (Nat.le_refl _)
  subst he
  exact ⟨_, rfl, _, _, _, [], _, [], hW', trodAll_mk1 (shut_bool Tryz.underlying4 _), (trodAll_cons_mk (Go.ChangeMaps.shut_string Tryz.underlying9 hsm) (trodAll_cons_mk (Go.ChangeMaps.shut_string Tryz.underlying9 htm) (trodAll_cons_mk (Below.trod laidOut (by kernel_rfl) (of_decide_eq_true (by kernel_rfl)) k2 bel lt2) trodAll_mk0))), rfl, bel.frame _, fun h => by cases h⟩

theorem laid_met (os : Os) : laidMet Tryz.prog Rows.scriptBetweenRow.laid ((World.laidAll Tryz.prog os Rows.scriptBetweenRow.laid).forCall (fun _ _ => 0) ⟨#[], #[.string ⟨#[]⟩, .string ⟨#[]⟩, .slice none 0 0], []⟩).memory :=
  laidMet_laidAll _ (by kernel_rfl) (by kernel_rfl)
theorem reads (os : Os) {H : Type} (enc : TypeId × Value → H) : ∃ places, DataW.whole enc Tryz.prog ((World.laidAll Tryz.prog os Rows.scriptBetweenRow.laid).forCall (fun _ _ => 0) ⟨#[], #[.string ⟨#[]⟩, .string ⟨#[]⟩, .slice none 0 0], []⟩).memory Tryz.f5.params.toList Rows.scriptBetweenSpec.vars false #[Value.string ⟨#[]⟩, Value.string ⟨#[]⟩, Value.slice none 0 0].toList 8 = some ([.lit (.string []), .lit (.string []), .nil], [], places) :=
  ⟨[], by kernel_rfl⟩

theorem witness_zip {H : Type} {enc : TypeId × Value → H} {C : Checked} {os : Os} {f : FuncId} {fn : Func} {s : OpenSpec} {conds : List PathCond} {apart : Bool} {laid : List (String × DataW Unit)} (modest : Bool) (w0 : World) (args : Array Value) (hos : w0.os = os)
    (hsh : (w0.forCall (fun _ _ => 0) ⟨#[], args, []⟩).Shaped C.prog)
    (hok : Input.okWideB C.prog (w0.forCall (fun _ _ => 0) ⟨#[], args, []⟩) f ⟨#[], args, []⟩ = true)
    (hrow : s.preRow enc C.prog fn conds apart laid (w0.forCall (fun _ _ => 0) ⟨#[], args, []⟩).memory args) :
    ∃ (w : World) (tape : Tape) (i : Input), w.os = os ∧ (w.forCall tape i).Shaped C.prog ∧ i.vars = [] ∧ Input.okWide C.prog (w.forCall tape i) .any w.heap.size f i ∧
      s.preRow enc C.prog fn conds apart laid (w.forCall tape i).memory i.args ∧ ({ modest := modest } : Assume).holds C.prog (lone (Frame.enter C.prog f i.args .normal) [] (w.forCall tape i)) :=
  ⟨w0, fun _ _ => 0, ⟨#[], args, []⟩, hos, hsh, (Input.okWide_of_okWideB (base := 0) hok).1, (Input.okWide_of_okWideB hok).2, hrow, by
    simp only [Assume.holds]
    exact ⟨by simp, by simp, fun _ => Modest.zero, by simp, by simp⟩⟩
set_option maxRecDepth 100000 in
theorem lifted (os : Os) (started : os.Started) (H : Type) (enc : TypeId × Value → H) (F : Stop.Interp) :
    ReturnsInHanded {} Tryz.checked os 5 .any ((OpenSpec.ofChange Rows.scriptBetweenSpec).preRow enc Tryz.prog Tryz.f5 Rows.scriptBetweenRow.domain false Rows.scriptBetweenRow.laid) (((OpenSpec.ofChange Rows.scriptBetweenSpec).at F).post enc Tryz.prog Tryz.f5 false true false false) := by
  obtain ⟨places, hx⟩ := reads os enc
  refine returnsInHanded_of_row (C := Tryz.checked) (s := OpenSpec.ofChange Rows.scriptBetweenSpec) own started (by kernel_rfl) Tryz.func5
    (witness_zip (enc := enc) (C := Tryz.checked) false (World.laidAll Tryz.prog os Rows.scriptBetweenRow.laid) #[.string ⟨#[]⟩, .string ⟨#[]⟩, .slice none 0 0] (World.laidAll_os _ _ _) (World.shaped_of_ZipB (by kernel_rfl) (by kernel_rfl)) (by kernel_rfl)
      (OpenSpec.preRow_of_cond 8 hx (by kernel_rfl) (fun k hk => by cases hk) (by kernel_rfl) (laid_met os))) ?_
  intro W base args ds gs before hval hW _ _ hwt hL _ _
  exact contract H enc W base args ds gs before hval hW hwt hL

theorem said : Rows.ScriptBetweenSaid :=
  OpenClaim.holds_of_cond 5 Tryz.f5 rfl rfl rfl rfl rfl rfl rfl ⟨rfl, rfl, rfl, rfl, rfl⟩ rfl rfl rfl rfl rfl (by kernel_rfl) Tryz.func5 (by kernel_rfl)
    (of_decide_eq_true (by kernel_rfl)) (by unfold Func.isWrapper; first | (rw [if_pos (by decide +kernel)]; kernel_rfl) | (rw [if_neg (by decide +kernel)]; exact ⟨rfl, rfl⟩))
    (fun os started H enc _ F => by rw [OpenClaim.pre_eq_preRow]; exact lifted os started H enc F)

theorem plain (f : FuncId) (fn : Func) (hf : Tryz.pinned.checked.prog.funcNamed "pedigree/pedigreelaw26.ScriptBetween" = some f) (hfn : Tryz.pinned.checked.prog.funcs[f]? = some fn) :
    true = Tryz.pinned.checked.prog.looks [] ∧ ∀ (j : Nat) t, fn.params[j]? = some t → Tryz.pinned.checked.prog.wantsStandIn t = false := by
  obtain rfl : f = 5 := Option.some.inj ((show Tryz.prog.funcNamed "pedigree/pedigreelaw26.ScriptBetween" = some 5 by kernel_rfl).symm.trans hf) |>.symm
  obtain rfl : fn = Tryz.f5 := (Option.some.inj (Tryz.func5.symm.trans hfn)).symm
  refine ⟨by kernel_rfl, fun j t ht => ?_⟩
  rw [Tryz.params5] at ht
  have hm : t = 9 ∨ t = 26 := by simpa using Array.mem_of_getElem? ht
  rcases hm with rfl | rfl
  · exact (show Tryz.prog.wantsStandIn 9 = false by kernel_rfl)
  · exact (show Tryz.prog.wantsStandIn 26 = false by kernel_rfl)

theorem proved : Rows.ScriptBetweenCardSaid :=
  Claim7.holds_tied_plain_at .later [] _ _ _ _ said (fun _ h => by cases h) (by kernel_rfl) (fun _ h => by cases h) scriptBetween_row_tie rfl ⟨rfl, rfl⟩ (by kernel_rfl) rfl plain (by kernel_rfl)
#print axioms proved
end Go.Proofs.YteblabpplaaddaaGreatDoor.scriptBetween
